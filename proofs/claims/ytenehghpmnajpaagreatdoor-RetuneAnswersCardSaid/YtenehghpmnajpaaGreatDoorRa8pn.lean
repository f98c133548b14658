/- Lemmas and contracts for the proof of RetuneAnswers (several texts in one, printed by wip/tools/pack.py): Ck1 ChR. -/
import Derived.Test.YtenehghpmnajpaaGreatDoorRa8ph
import Derived.Test.YtenehghpmnajpaaGreatDoorRa8pm
import Derived.Test.YtenehghpmnajpaaGreatDoorRa8pl
import Derived.Maps.RangeWalk
set_option maxRecDepth 100000
set_option maxHeartbeats 16000000
set_option linter.unusedVariables false
set_option linter.unusedSimpArgs false
namespace Go.Proofs.YtenehghpmnajpaaGreatDoor
open Go.RowKit Go.Maps
open Classical
theorem run_look_b {w : World} {B : Nat} {V : List (Int × Bool)} (h : MapB w B V) {k : Int} (hk : Wide k) :
    (Instr.lookup 125 (.map (some B)) (.int .i64 k) false).run Tryz.prog w = .ok (.bool ((look V k).getD false)) w := by
  obtain ⟨D, h1, h2, h3⟩ := h
  obtain ⟨v, ps, hr, hv⟩ := h1.lookup keyed_int Tryz.underlying125 (zero_bool w) (plainElem_bool Tryz.underlying4 false) (keyOf_int_mk Tryz.underlying3 (wide_wf hk))
  rw [hr]
  obtain ⟨x, rfl, hx⟩ := plainElem_bool_inv hv
  cases e : look V k with
  | none =>
    rw [atKey_of_not_has (by rw [h2 k, e]; rfl)] at hx
    simp at hx
    subst hx; simp
  | some y =>
    rw [h3 k y _ e] at hx
    simp at hx
    subst hx; simp
structure CSt (l : List Clk) (base BW BI BM BR : Nat) (cs : List (List Int)) (D : DataW Unit) (left : Lit → Bool) (cnt : Nat) (b : Bool) (w : World) (L : List Nat) : Prop where
  whole : Row w BW 4 [.bool b]
  box : Row w BI 125 [.map (some BM)]
  it : w.ranges Tryz.prog 3 (plainElem Tryz.prog 4) BM BR cs.length D left cnt
  has : ∀ k, Maps.has D (.int .i64 k) = (look (entV l cs) k).isSome
  at' : ∀ k x z, look (entV l cs) k = some x → D.atKey (.int .i64 k) z = .lit (.bool x)
  off : BW ∉ L ∧ BI ∉ L ∧ BM ∉ L ∧ BR ∉ L
  low : base ≤ BW ∧ base ≤ BI ∧ base ≤ BM ∧ base ≤ BR
section
variable {l : List Clk} {base BW BI BM BR : Nat} {cs : List (List Int)} {D : DataW Unit} {left : Lit → Bool} {cnt : Nat} {b : Bool} {w : World} {L : List Nat}
theorem CSt.map (h : CSt l base BW BI BM BR cs D left cnt b w L) : MapB w BM (entV l cs) :=
  ⟨D, by rw [entV_len]; exact h.it.owns, h.has, h.at'⟩
theorem cst_ok (l : List Clk) (base BW BI BM BR : Nat) (cs : List (List Int)) (D : DataW Unit) (left : Lit → Bool) (cnt : Nat) : LiesOk (CSt l base BW BI BM BR cs D left cnt) where
  keep := by
    intro b w w' L row q hg hrow
    have hne : ∀ b, b ∉ L → some b ≠ row := fun b hb e => hb (hrow b e.symm)
    exact ⟨q.whole.grown hg (hne _ q.off.1), q.box.grown hg (hne _ q.off.2.1), q.it.kept hg (hne _ q.off.2.2.1) (hne _ q.off.2.2.2), q.has, q.at', q.off, q.low⟩
  sub := by
    intro b w L L' q hs
    exact ⟨q.whole, q.box, q.it, q.has, q.at', ⟨fun m => q.off.1 (hs _ m), fun m => q.off.2.1 (hs _ m), fun m => q.off.2.2.1 (hs _ m), fun m => q.off.2.2.2 (hs _ m)⟩, q.low⟩
theorem CSt.turn (h : CSt l base BW BI BM BR cs D left cnt b w L) (hr : BR ≠ BW) (x : Bool) : CSt l base BW BI BM BR cs D left cnt x (w.setCell ⟨BW, 0, none⟩ (.bool x)) L where
  whole := by have := h.whole.set 0 (.bool x); simpa using this
  box := h.box.oth (h.whole.s.apart h.box.s (by decide))
  it := h.it.kept (grownBy_set w BW 0 _) (by intro e; injection e with e; exact h.map.ne_row h.whole e) (by intro e; injection e with e; exact hr e)
  has := h.has
  at' := h.at'
  off := h.off
  low := h.low
end
noncomputable def cStep (cs : List (List Int)) (b : Bool) (t : Nbr) : Bool := b && decide (t.2.2 ∈ cs)
theorem check1_any (l : List Clk) (cal : List Int → Bool) (BW BI BM BR : Nat) (cs : List (List Int)) (D : DataW Unit) (left : Lit → Bool) (cnt : Nat) (s : List Int) (w0 : World) (hc : cchk l = 0) (hset : SetOk l s) (ho : ListOk l cs) (hr : BR ≠ BW) :
    VisitC (CSt l w0.heap.size BW BI BM BR cs D left cnt) (cStep cs) l cal s BW BI w0 := by
  intro t b w L ht hg hst hL
  have hto := (nb_ok ht hset).1
  have hwt := wide_num hc hto
  obtain ⟨w1, hw1⟩ : ∃ w1 : World, Hid (w1 = w.alloc (.cells #[.int .i64 1, .int .i64 t.1, .int .i64 t.2.1] 65)) := ⟨_, Lib.hid rfl⟩
  have G1 : Hid (Gr w w1) := Lib.hid (by rw [hw1.out]; exact (Gr.refl _).alloc _)
  have pk := cst_ok l w0.heap.size BW BI BM BR cs D left cnt
  have S1 : Hid (CSt l w0.heap.size BW BI BM BR cs D left cnt b w1 L) := Lib.hid (pk.keep _ _ _ _ none hst (G1.out.by none) (fun b e => by cases e))
  have LK : (Instr.lookup 125 (.map (some BM)) (.int .i64 (num l t.2.2)) false).run Tryz.prog w1 = .ok (.bool (decide (t.2.2 ∈ cs))) w1 := by
    rw [run_look_b S1.out.map hwt, look_ent ho hto]
    by_cases e : t.2.2 ∈ cs <;> simp [e]
  have w00 := hst.whole.cell 0 (by simp)
  have i0 := hst.box.cell 0 (by simp)
  have wh := hst.whole.has
  have ih := hst.box.has
  have wf := hst.whole.free 0
  simp only [List.getElem_cons_zero] at w00 i0
  have HG := Lib.hid hg
  have HLs := Lib.hid hL
  have HS := Lib.hid hst
  rw [hw1.out] at LK
  obtain ⟨x, ex⟩ : ∃ x, decide (t.2.2 ∈ cs) = x := ⟨_, rfl⟩
  rw [ex] at LK
  have HC : Hid (cStep cs b t = (b && x)) := Lib.hid (by unfold cStep; rw [ex])
  obtain ⟨n, hn⟩ : ∃ n, num l t.2.2 = n := ⟨_, rfl⟩
  rw [hn] at LK ⊢
  clear hst hto hwt hL hg ex hn pk hc ho
  have FIN : Hid (∀ W, W = (w.setCell ⟨BW, 0, none⟩ (.bool (b && x))).alloc (.cells #[.int .i64 1, .int .i64 t.1, .int .i64 t.2.1] 65) → CSt l w0.heap.size BW BI BM BR cs D left cnt (cStep cs b t) W L ∧ Gr w0 W ∧ (∀ b ∈ L, W.heap[b]? = w.heap[b]?) ∧ w.heap.size ≤ W.heap.size) := Lib.hid (fun W hW => by
    subst hW
    rw [HC.out]
    have hgr := grownBy_set w BW 0 (.bool (b && x))
    have ga : Gr (w.setCell ⟨BW, 0, none⟩ (.bool (b && x))) ((w.setCell ⟨BW, 0, none⟩ (.bool (b && x))).alloc (.cells #[.int .i64 1, .int .i64 t.1, .int .i64 t.2.1] 65)) := (Gr.refl _).alloc _
    refine ⟨(cst_ok l w0.heap.size BW BI BM BR cs D left cnt).keep _ _ _ _ none (HS.out.turn hr _) (ga.by none) (fun b e => by cases e), (HG.out.setc HS.out.low.1).trans ga, fun c hcL => ?_, Nat.le_trans hgr.size ga.size⟩
    have hb := HLs.out c hcL
    unfold Has at hb
    rw [ga.below.block c (Nat.lt_of_lt_of_le hb hgr.size)]
    exact hgr.block c hb (by intro e; injection e with e; subst e; exact HS.out.off.1 hcL))
  clear S1 G1
  cases b with
  | false =>
    simp only [Bool.false_and] at FIN
    go_enter Tryz.func88, Tryz.ntmps88
    go_wp2_with fail
    go_end0
    exact ⟨rfl, FIN.out _ rfl⟩
  | true =>
    simp only [Bool.true_and] at FIN
    go_enter Tryz.func88, Tryz.ntmps88
    go_wp2_with fail
    go_end0
    exact ⟨rfl, FIN.out _ rfl⟩
end Go.Proofs.YtenehghpmnajpaaGreatDoor

set_option linter.unusedVariables false
set_option linter.unusedSimpArgs false
namespace Go.Proofs.YtenehghpmnajpaaGreatDoor
open Go.RowKit
open Classical
def ch14F (R : World → Prop) (wr : World) (n : Int) (BI BM : Nat) (t14 t53 t54 t55 : Value) (d : Array Bool) (w : World) : Prop :=
  (d.getD 4 false = false → w = wr.drew) ∧ (d.getD 0 false = true → t53 = .map (some BM)) ∧
  (d.getD 1 false = true → t54 = .int .i64 n) ∧
  (d.getD 2 false = true → t55 = .int .i64 n) ∧
  (d.getD 3 false = true → t14 = .int .i64 n) ∧
  (d.getD 4 false = true → (d.getD 0 false = true ∧ R w))
def ch14A (n : Int) (BI : Nat) (t14 t53 t54 t55 s0 s1 s2 s3 s4 s5 s6 s7 s8 s9 s10 s11 s12 s15 s16 s18 s19 s20 s21 s22 s23 s24 s25 s26 s27 s28 s29 s30 s31 s32 s33 s34 s35 s36 s37 s38 s39 s40 s41 s42 s43 s44 s45 s46 s47 s48 s49 s50 s51 s52 s56 s57 s58 s59 s60 s61 s62 s63 s64 s65 s66 s67 s68 s69 s70 s71 s72 s73 s74 s75 s76 s77 s78 s79 s80 : Value) : Act := { tmps := #[s0, s1, s2, s3, s4, s5, s6, s7, s8, s9, s10, s11, s12, .pointer (some ⟨BI, 0, none⟩), t14, s15, s16, .int .i64 n, s18, s19, s20, s21, s22, s23, s24, s25, s26, s27, s28, s29, s30, s31, s32, s33, s34, s35, s36, s37, s38, s39, s40, s41, s42, s43, s44, s45, s46, s47, s48, s49, s50, s51, s52, t53, t54, t55, s56, s57, s58, s59, s60, s61, s62, s63, s64, s65, s66, s67, s68, s69, s70, s71, s72, s73, s74, s75, s76, s77, s78, s79, s80], defers := [] }
theorem ch14 {Q : Exit → Act → World → Prop} {R : World → Prop} {wr : World} {n : Int} {BI BM : Nat}  {s0 s1 s2 s3 s4 s5 s6 s7 s8 s9 s10 s11 s12 s14 s15 s16 s18 s19 s20 s21 s22 s23 s24 s25 s26 s27 s28 s29 s30 s31 s32 s33 s34 s35 s36 s37 s38 s39 s40 s41 s42 s43 s44 s45 s46 s47 s48 s49 s50 s51 s52 s53 s54 s55 s56 s57 s58 s59 s60 s61 s62 s63 s64 s65 s66 s67 s68 s69 s70 s71 s72 s73 s74 s75 s76 s77 s78 s79 s80 : Value} (BX : Row wr BI 125 [.map (some BM)]) (hr : ∃ w', (Instr.mapUpdate 125 (.map (some BM)) (.int .i64 n) (.bool true)).run Tryz.prog wr.drew = .ok () w' ∧ R w')
    (h' : ∀ t53 t54 t55 wx, R wx → Q .normal (ch14A n BI (.int .i64 n) t53 t54 t55 s0 s1 s2 s3 s4 s5 s6 s7 s8 s9 s10 s11 s12 s15 s16 s18 s19 s20 s21 s22 s23 s24 s25 s26 s27 s28 s29 s30 s31 s32 s33 s34 s35 s36 s37 s38 s39 s40 s41 s42 s43 s44 s45 s46 s47 s48 s49 s50 s51 s52 s56 s57 s58 s59 s60 s61 s62 s63 s64 s65 s66 s67 s68 s69 s70 s71 s72 s73 s74 s75 s76 s77 s78 s79 s80) wx) :
    (Code.region 14 (regIn 14 Tryz.f32) true).wp Tryz.prog Q { tmps := #[s0, s1, s2, s3, s4, s5, s6, s7, s8, s9, s10, s11, s12, .pointer (some ⟨BI, 0, none⟩), s14, s15, s16, .int .i64 n, s18, s19, s20, s21, s22, s23, s24, s25, s26, s27, s28, s29, s30, s31, s32, s33, s34, s35, s36, s37, s38, s39, s40, s41, s42, s43, s44, s45, s46, s47, s48, s49, s50, s51, s52, s53, s54, s55, s56, s57, s58, s59, s60, s61, s62, s63, s64, s65, s66, s67, s68, s69, s70, s71, s72, s73, s74, s75, s76, s77, s78, s79, s80], defers := [] } wr := by
  simp only [regIn, Tryz.f32, regOps, Option.bind_some, Option.getD_some, Nat.beq, cond_true, cond_false]
  refine wp_region_steps (fun done a w => ∃ t14 t53 t54 t55, a = ch14A n BI t14 t53 t54 t55 s0 s1 s2 s3 s4 s5 s6 s7 s8 s9 s10 s11 s12 s15 s16 s18 s19 s20 s21 s22 s23 s24 s25 s26 s27 s28 s29 s30 s31 s32 s33 s34 s35 s36 s37 s38 s39 s40 s41 s42 s43 s44 s45 s46 s47 s48 s49 s50 s51 s52 s56 s57 s58 s59 s60 s61 s62 s63 s64 s65 s66 s67 s68 s69 s70 s71 s72 s73 s74 s75 s76 s77 s78 s79 s80 ∧ ch14F R wr n BI BM t14 t53 t54 t55 done w) (by kernel_rfl) (by kernel_rfl) ?_ ⟨?_, ?_, ?_, ?_, ?_, trivial⟩ ?_
  · exact ⟨s14, s53, s54, s55, rfl, fun _ => rfl, fun q => absurd q (by decide), fun q => absurd q (by decide), fun q => absurd q (by decide), fun q => absurd q (by decide), fun q => absurd q (by decide)⟩
  · rintro done a w hsz hnot hdep ⟨t14, t53, t54, t55, rfl, gw, f0, f1, f2, f3, f4⟩ K hK
    have hn : ¬ done.getD 0 false = true := by rw [getD_both hnot]; decide
    have n4 : done.getD 4 false = false := by
      cases e4 : done.getD 4 false with
      | false => rfl
      | true => exact absurd (f4 e4).1 hn
    obtain rfl := gw n4
    have r := BX
    have c0 := r.cell 0 (by simp)
    have ch := r.has
    simp only [List.getElem_cons_zero] at c0
    clear r n4
    have HK := PLift.up hK
    clear hK 
    simp only [ch14A]
    go_simp
    refine HK.down _ _ ⟨_, _, _, _, rfl, (fun q => gw (by rw [getD_set_ne false (by decide)] at q; exact q)), fun _ => rfl, kp f1, kp f2, kp f3, fun q => absurd (f4 (done_old q (by decide))).1 hn⟩
  · rintro done a w hsz hnot hdep ⟨t14, t53, t54, t55, rfl, gw, f0, f1, f2, f3, f4⟩ K hK
    have hn : ¬ done.getD 1 false = true := by rw [getD_both hnot]; decide
    have HK := PLift.up hK
    clear hK 
    simp only [ch14A]
    go_simp
    refine HK.down _ _ ⟨_, _, _, _, rfl, (fun q => gw (by rw [getD_set_ne false (by decide)] at q; exact q)), kp f0, fun _ => rfl, kp f2, kp f3, fun q => (let ⟨a1, h2⟩ := f4 (done_old q (by decide)); ⟨getD_set_true a1, h2⟩)⟩
  · rintro done a w hsz hnot hdep ⟨t14, t53, t54, t55, rfl, gw, f0, f1, f2, f3, f4⟩ K hK
    have hn : ¬ done.getD 2 false = true := by rw [getD_both hnot]; decide
    have HK := PLift.up hK
    clear hK 
    simp only [ch14A]
    go_simp
    refine HK.down _ _ ⟨_, _, _, _, rfl, (fun q => gw (by rw [getD_set_ne false (by decide)] at q; exact q)), kp f0, kp f1, fun _ => rfl, kp f3, fun q => (let ⟨a1, h2⟩ := f4 (done_old q (by decide)); ⟨getD_set_true a1, h2⟩)⟩
  · rintro done a w hsz hnot hdep ⟨t14, t53, t54, t55, rfl, gw, f0, f1, f2, f3, f4⟩ K hK
    have hn : ¬ done.getD 3 false = true := by rw [getD_both hnot]; decide
    have d2 := hdep 2 (by kernel_rfl)
    obtain rfl := f2 d2
    have HK := PLift.up hK
    clear hK d2
    simp only [ch14A]
    go_simp
    refine HK.down _ _ ⟨_, _, _, _, rfl, (fun q => gw (by rw [getD_set_ne false (by decide)] at q; exact q)), kp f0, kp f1, kp f2, fun _ => rfl, fun q => (let ⟨a1, h2⟩ := f4 (done_old q (by decide)); ⟨getD_set_true a1, h2⟩)⟩
  · rintro done a w hsz hnot hdep ⟨t14, t53, t54, t55, rfl, gw, f0, f1, f2, f3, f4⟩ K hK
    have hn : ¬ done.getD 4 false = true := by rw [getD_both hnot]; decide
    have d0 := hdep 0 (by kernel_rfl)
    have d1 := hdep 1 (by kernel_rfl)
    obtain rfl := f0 d0
    obtain rfl := f1 d1
    have n4 := getD_both hnot
    obtain rfl := gw n4
    refine step_mapStore wr.drew rfl 125 _ _ _ rfl rfl rfl rfl hr (fun w' hw' => ?_)
    refine hK _ _ ⟨_, _, _, _, rfl, (fun q => absurd q (by rw [getD_set_same (by rw [hsz]; decide)]; decide)), kp f0, kp f1, kp f2, kp f3, ?_⟩
    exact fun _ => ⟨getD_set_true d0, hw'⟩
  · rintro done a w hall ⟨t14, t53, t54, t55, rfl, gw, f0, f1, f2, f3, f4⟩
    obtain rfl := f3 (hall 3 (by decide))
    exact h' _ _ _ w (f4 (hall 4 (by decide))).2
def ch16tF (w0 wr : World) (l : List Clk) (ms : List Lmt) (f t : List Int) (al am af at' : Option Addr) (cl cm cf ct BK XP BI BM : Nat) (y : Bool) (t18 t57 t58 t59 t60 t61 t62 t63 t64 t65 t66 t67 t68 t69 : Value) (d : Array Bool) (w : World) : Prop :=
  Gr wr w ∧ (d.getD 0 false = true → t57 = .map (some BM)) ∧
  (d.getD 1 false = true → t58 = .agg #[.slice al l.length cl, .slice am ms.length cm, .map (some BK)]) ∧
  (d.getD 2 false = true → t59 = .slice af l.length cf) ∧
  (d.getD 3 false = true → t60 = .int .i64 (num l f)) ∧
  (d.getD 4 false = true → t61 = .bool true) ∧
  (d.getD 5 false = true → t62 = .bool true) ∧
  (d.getD 6 false = true → t63 = .map (some BM)) ∧
  (d.getD 7 false = true → t64 = .agg #[.slice al l.length cl, .slice am ms.length cm, .map (some BK)]) ∧
  (d.getD 8 false = true → t65 = .slice at' l.length ct) ∧
  (d.getD 9 false = true → t66 = .int .i64 (num l t)) ∧
  (d.getD 10 false = true → t67 = .bool y) ∧
  (d.getD 11 false = true → t68 = .bool (!y)) ∧
  (d.getD 12 false = true → t69 = .bool (!y)) ∧
  (d.getD 13 false = true → (∃ BW, t18 = .pointer (some ⟨BW, 0, none⟩) ∧ wr.heap.size ≤ BW ∧ (d.getD 14 false = false → Row w BW 4 [.bool false]))) ∧
  (d.getD 14 false = true → (d.getD 13 false = true ∧ ∃ BW, t18 = .pointer (some ⟨BW, 0, none⟩) ∧ wr.heap.size ≤ BW ∧ Row w BW 4 [.bool (!y)]))
def ch16tA (l : List Clk) (af at' : Option Addr) (cf ct XP BI : Nat) (t18 t57 t58 t59 t60 t61 t62 t63 t64 t65 t66 t67 t68 t69 s0 s3 s4 s5 s6 s7 s8 s9 s10 s12 s14 s15 s16 s17 s19 s20 s21 s22 s23 s24 s25 s26 s27 s28 s29 s30 s31 s32 s33 s34 s35 s36 s37 s38 s39 s40 s41 s42 s43 s44 s45 s46 s47 s48 s49 s50 s51 s52 s53 s54 s55 s56 s70 s71 s72 s73 s74 s75 s76 s77 s78 s79 s80 : Value) : Act := { tmps := #[s0, .slice af l.length cf, .slice at' l.length ct, s3, s4, s5, s6, s7, s8, s9, s10, .pointer (some ⟨XP, 0, none⟩), s12, .pointer (some ⟨BI, 0, none⟩), s14, s15, s16, s17, t18, s19, s20, s21, s22, s23, s24, s25, s26, s27, s28, s29, s30, s31, s32, s33, s34, s35, s36, s37, s38, s39, s40, s41, s42, s43, s44, s45, s46, s47, s48, s49, s50, s51, s52, s53, s54, s55, s56, t57, t58, t59, t60, t61, t62, t63, t64, t65, t66, t67, t68, t69, s70, s71, s72, s73, s74, s75, s76, s77, s78, s79, s80], defers := [] }
theorem ch16t {Q : Exit → Act → World → Prop} {w0 wr : World} {l : List Clk} {ms : List Lmt} {f t : List Int} {al am af at' : Option Addr} {cl cm cf ct BK XP BI BM : Nat} {y : Bool}  {s0 s3 s4 s5 s6 s7 s8 s9 s10 s12 s14 s15 s16 s17 s18 s19 s20 s21 s22 s23 s24 s25 s26 s27 s28 s29 s30 s31 s32 s33 s34 s35 s36 s37 s38 s39 s40 s41 s42 s43 s44 s45 s46 s47 s48 s49 s50 s51 s52 s53 s54 s55 s56 s57 s58 s59 s60 s61 s62 s63 s64 s65 s66 s67 s68 s69 s70 s71 s72 s73 s74 s75 s76 s77 s78 s79 s80 : Value} {cs : List (List Int)} (hp : PB l ms al am cl cm BK XP w0 wr wr) (BX : Row wr BI 125 [.map (some BM)]) (MP : MapB wr BM (entV l cs)) (he : Env w0 l ms al am) (ho : ListOk l cs) (hf : SetOk l f) (ht : SetOk l t) (sf : SlOf 1 RI w0 af f) (st : SlOf 1 RI w0 at' t) (hx : decide (f ∈ cs) = true) (hy : decide (t ∈ cs) = y)
    (h' : ∀ t57 t58 t59 t60 t61 t62 t63 t64 t65 t66 t67 t68 t69 BW wx, Gr wr wx → wr.heap.size ≤ BW → Row wx BW 4 [.bool (!y)] → Q .normal (ch16tA l af at' cf ct XP BI (.pointer (some ⟨BW, 0, none⟩)) t57 t58 t59 t60 t61 t62 t63 t64 t65 t66 t67 t68 t69 s0 s3 s4 s5 s6 s7 s8 s9 s10 s12 s14 s15 s16 s17 s19 s20 s21 s22 s23 s24 s25 s26 s27 s28 s29 s30 s31 s32 s33 s34 s35 s36 s37 s38 s39 s40 s41 s42 s43 s44 s45 s46 s47 s48 s49 s50 s51 s52 s53 s54 s55 s56 s70 s71 s72 s73 s74 s75 s76 s77 s78 s79 s80) wx) :
    (Code.region 16 (regIn 16 Tryz.f32) true).wp Tryz.prog Q { tmps := #[s0, .slice af l.length cf, .slice at' l.length ct, s3, s4, s5, s6, s7, s8, s9, s10, .pointer (some ⟨XP, 0, none⟩), s12, .pointer (some ⟨BI, 0, none⟩), s14, s15, s16, s17, s18, s19, s20, s21, s22, s23, s24, s25, s26, s27, s28, s29, s30, s31, s32, s33, s34, s35, s36, s37, s38, s39, s40, s41, s42, s43, s44, s45, s46, s47, s48, s49, s50, s51, s52, s53, s54, s55, s56, s57, s58, s59, s60, s61, s62, s63, s64, s65, s66, s67, s68, s69, s70, s71, s72, s73, s74, s75, s76, s77, s78, s79, s80], defers := [] } wr := by
  have HE := PLift.up he
  have HO := PLift.up ho
  have HF := PLift.up hf
  have HT := PLift.up ht
  have SF := PLift.up sf
  have ST := PLift.up st
  have HX := PLift.up hx
  have HY := PLift.up hy
  clear he ho hf ht sf st hx hy
  simp only [regIn, Tryz.f32, regOps, Option.bind_some, Option.getD_some, Nat.beq, cond_true, cond_false]
  refine wp_region_steps (fun done a w => ∃ t18 t57 t58 t59 t60 t61 t62 t63 t64 t65 t66 t67 t68 t69, a = ch16tA l af at' cf ct XP BI t18 t57 t58 t59 t60 t61 t62 t63 t64 t65 t66 t67 t68 t69 s0 s3 s4 s5 s6 s7 s8 s9 s10 s12 s14 s15 s16 s17 s19 s20 s21 s22 s23 s24 s25 s26 s27 s28 s29 s30 s31 s32 s33 s34 s35 s36 s37 s38 s39 s40 s41 s42 s43 s44 s45 s46 s47 s48 s49 s50 s51 s52 s53 s54 s55 s56 s70 s71 s72 s73 s74 s75 s76 s77 s78 s79 s80 ∧ ch16tF w0 wr l ms f t al am af at' cl cm cf ct BK XP BI BM y t18 t57 t58 t59 t60 t61 t62 t63 t64 t65 t66 t67 t68 t69 done w) (by kernel_rfl) (by kernel_rfl) ?_ ⟨?_, ?_, ?_, ?_, ?_, ?_, ?_, ?_, ?_, ?_, ?_, ?_, ?_, ?_, ?_, trivial⟩ ?_
  · exact ⟨s18, s57, s58, s59, s60, s61, s62, s63, s64, s65, s66, s67, s68, s69, rfl, (Gr.refl _).drew, fun q => absurd q (by decide), fun q => absurd q (by decide), fun q => absurd q (by decide), fun q => absurd q (by decide), fun q => absurd q (by decide), fun q => absurd q (by decide), fun q => absurd q (by decide), fun q => absurd q (by decide), fun q => absurd q (by decide), fun q => absurd q (by decide), fun q => absurd q (by decide), fun q => absurd q (by decide), fun q => absurd q (by decide), fun q => absurd q (by decide), fun q => absurd q (by decide)⟩
  · rintro done a w hsz hnot hdep ⟨t18, t57, t58, t59, t60, t61, t62, t63, t64, t65, t66, t67, t68, t69, rfl, gw, f0, f1, f2, f3, f4, f5, f6, f7, f8, f9, f10, f11, f12, f13, f14⟩ K hK
    have hn : ¬ done.getD 0 false = true := by rw [getD_both hnot]; decide
    have r := BX.gr gw
    have c0 := r.cell 0 (by simp)
    have ch := r.has
    simp only [List.getElem_cons_zero] at c0
    clear r
    have HK := PLift.up hK
    clear hK 
    simp only [ch16tA]
    go_simp
    have gg : Gr w w := Gr.refl _
    refine HK.down _ _ ⟨_, _, _, _, _, _, _, _, _, _, _, _, _, _, rfl, gw, fun _ => rfl, kp f1, kp f2, kp f3, kp f4, kp f5, kp f6, kp f7, kp f8, kp f9, kp f10, kp f11, kp f12, fun q => (let ⟨BW, e, h1, h2⟩ := f13 (done_old q (by decide)); ⟨BW, e, h1, fun q2 => (h2 (by rw [getD_set_ne false (by decide)] at q2; exact q2)).gr gg⟩), fun q => (let ⟨a1, BW, e, h1, h2⟩ := f14 (done_old q (by decide)); ⟨getD_set_true a1, BW, e, h1, h2.gr gg⟩)⟩
  · rintro done a w hsz hnot hdep ⟨t18, t57, t58, t59, t60, t61, t62, t63, t64, t65, t66, t67, t68, t69, rfl, gw, f0, f1, f2, f3, f4, f5, f6, f7, f8, f9, f10, f11, f12, f13, f14⟩ K hK
    have hn : ¬ done.getD 1 false = true := by rw [getD_both hnot]; decide
    have r := hp.box.gr gw
    have c0 := r.cell 0 (by simp)
    have c1 := r.cell 1 (by simp)
    have c2 := r.cell 2 (by simp)
    have ch := r.has
    simp only [List.getElem_cons_zero, List.getElem_cons_succ] at c0 c1 c2
    clear r
    have HK := PLift.up hK
    clear hK 
    simp only [ch16tA]
    go_simp
    have gg : Gr w w := Gr.refl _
    refine HK.down _ _ ⟨_, _, _, _, _, _, _, _, _, _, _, _, _, _, rfl, gw, kp f0, fun _ => rfl, kp f2, kp f3, kp f4, kp f5, kp f6, kp f7, kp f8, kp f9, kp f10, kp f11, kp f12, fun q => (let ⟨BW, e, h1, h2⟩ := f13 (done_old q (by decide)); ⟨BW, e, h1, fun q2 => (h2 (by rw [getD_set_ne false (by decide)] at q2; exact q2)).gr gg⟩), fun q => (let ⟨a1, BW, e, h1, h2⟩ := f14 (done_old q (by decide)); ⟨getD_set_true a1, BW, e, h1, h2.gr gg⟩)⟩
  · rintro done a w hsz hnot hdep ⟨t18, t57, t58, t59, t60, t61, t62, t63, t64, t65, t66, t67, t68, t69, rfl, gw, f0, f1, f2, f3, f4, f5, f6, f7, f8, f9, f10, f11, f12, f13, f14⟩ K hK
    have hn : ¬ done.getD 2 false = true := by rw [getD_both hnot]; decide
    have HK := PLift.up hK
    clear hK 
    simp only [ch16tA]
    go_simp
    have gg : Gr w w := Gr.refl _
    refine HK.down _ _ ⟨_, _, _, _, _, _, _, _, _, _, _, _, _, _, rfl, gw, kp f0, kp f1, fun _ => rfl, kp f3, kp f4, kp f5, kp f6, kp f7, kp f8, kp f9, kp f10, kp f11, kp f12, fun q => (let ⟨BW, e, h1, h2⟩ := f13 (done_old q (by decide)); ⟨BW, e, h1, fun q2 => (h2 (by rw [getD_set_ne false (by decide)] at q2; exact q2)).gr gg⟩), fun q => (let ⟨a1, BW, e, h1, h2⟩ := f14 (done_old q (by decide)); ⟨getD_set_true a1, BW, e, h1, h2.gr gg⟩)⟩
  · rintro done a w hsz hnot hdep ⟨t18, t57, t58, t59, t60, t61, t62, t63, t64, t65, t66, t67, t68, t69, rfl, gw, f0, f1, f2, f3, f4, f5, f6, f7, f8, f9, f10, f11, f12, f13, f14⟩ K hK
    have hn : ¬ done.getD 3 false = true := by rw [getD_both hnot]; decide
    have d1 := hdep 1 (by kernel_rfl)
    have d2 := hdep 2 (by kernel_rfl)
    obtain rfl := f1 d1
    obtain rfl := f2 d2
    have HK := PLift.up hK
    clear hK d1 d2
    simp only [ch16tA]
    go_simp
    have NM := number_any l f al af am cl cf ms.length cm (.map (some BK)) w (clks_gr HE.down.clks (hp.gr.trans gw)) (SF.down.giI (hp.gr.trans gw)) HE.down.chk HF.down
    rw [HF.down.1] at NM
    refine NM.mono ?_
    rintro e w2 ⟨rfl, hg⟩
    have gg : Gr w w2 := hg
    clear hg
    (try go_simp)
    refine HK.down _ _ ⟨_, _, _, _, _, _, _, _, _, _, _, _, _, _, rfl, gw.trans gg, kp f0, kp f1, kp f2, fun _ => rfl, kp f4, kp f5, kp f6, kp f7, kp f8, kp f9, kp f10, kp f11, kp f12, fun q => (let ⟨BW, e, h1, h2⟩ := f13 (done_old q (by decide)); ⟨BW, e, h1, fun q2 => (h2 (by rw [getD_set_ne false (by decide)] at q2; exact q2)).gr gg⟩), fun q => (let ⟨a1, BW, e, h1, h2⟩ := f14 (done_old q (by decide)); ⟨getD_set_true a1, BW, e, h1, h2.gr gg⟩)⟩
  · rintro done a w hsz hnot hdep ⟨t18, t57, t58, t59, t60, t61, t62, t63, t64, t65, t66, t67, t68, t69, rfl, gw, f0, f1, f2, f3, f4, f5, f6, f7, f8, f9, f10, f11, f12, f13, f14⟩ K hK
    have hn : ¬ done.getD 4 false = true := by rw [getD_both hnot]; decide
    have d0 := hdep 0 (by kernel_rfl)
    have d3 := hdep 3 (by kernel_rfl)
    obtain rfl := f0 d0
    obtain rfl := f3 d3
    have LK : (Instr.lookup 125 (.map (some BM)) (.int .i64 (num l f)) false).run Tryz.prog w = .ok (.bool true) w := by
      have := run_look_b (MP.gr gw) (wide_num HE.down.chk HF.down)
      rw [this, look_ent HO.down HF.down]
      have hx := HX.down
      split <;> rename_i hm <;> simp [hm] at hx <;> simp [hx]
    have HK := PLift.up hK
    clear hK d0 d3
    simp only [ch16tA]
    go_simp
    have gg : Gr w w := Gr.refl _
    refine HK.down _ _ ⟨_, _, _, _, _, _, _, _, _, _, _, _, _, _, rfl, gw, kp f0, kp f1, kp f2, kp f3, fun _ => rfl, kp f5, kp f6, kp f7, kp f8, kp f9, kp f10, kp f11, kp f12, fun q => (let ⟨BW, e, h1, h2⟩ := f13 (done_old q (by decide)); ⟨BW, e, h1, fun q2 => (h2 (by rw [getD_set_ne false (by decide)] at q2; exact q2)).gr gg⟩), fun q => (let ⟨a1, BW, e, h1, h2⟩ := f14 (done_old q (by decide)); ⟨getD_set_true a1, BW, e, h1, h2.gr gg⟩)⟩
  · rintro done a w hsz hnot hdep ⟨t18, t57, t58, t59, t60, t61, t62, t63, t64, t65, t66, t67, t68, t69, rfl, gw, f0, f1, f2, f3, f4, f5, f6, f7, f8, f9, f10, f11, f12, f13, f14⟩ K hK
    have hn : ¬ done.getD 5 false = true := by rw [getD_both hnot]; decide
    have d4 := hdep 4 (by kernel_rfl)
    obtain rfl := f4 d4
    have HK := PLift.up hK
    clear hK d4
    simp only [ch16tA]
    go_simp
    have gg : Gr w w := Gr.refl _
    refine HK.down _ _ ⟨_, _, _, _, _, _, _, _, _, _, _, _, _, _, rfl, gw, kp f0, kp f1, kp f2, kp f3, kp f4, fun _ => rfl, kp f6, kp f7, kp f8, kp f9, kp f10, kp f11, kp f12, fun q => (let ⟨BW, e, h1, h2⟩ := f13 (done_old q (by decide)); ⟨BW, e, h1, fun q2 => (h2 (by rw [getD_set_ne false (by decide)] at q2; exact q2)).gr gg⟩), fun q => (let ⟨a1, BW, e, h1, h2⟩ := f14 (done_old q (by decide)); ⟨getD_set_true a1, BW, e, h1, h2.gr gg⟩)⟩
  · rintro done a w hsz hnot hdep ⟨t18, t57, t58, t59, t60, t61, t62, t63, t64, t65, t66, t67, t68, t69, rfl, gw, f0, f1, f2, f3, f4, f5, f6, f7, f8, f9, f10, f11, f12, f13, f14⟩ K hK
    have hn : ¬ done.getD 6 false = true := by rw [getD_both hnot]; decide
    have d5 := hdep 5 (by kernel_rfl)
    obtain rfl := f5 d5
    have r := BX.gr gw
    have c0 := r.cell 0 (by simp)
    have ch := r.has
    simp only [List.getElem_cons_zero] at c0
    clear r
    have HK := PLift.up hK
    clear hK d5
    simp only [ch16tA]
    go_simp
    have gg : Gr w w := Gr.refl _
    refine HK.down _ _ ⟨_, _, _, _, _, _, _, _, _, _, _, _, _, _, rfl, gw, kp f0, kp f1, kp f2, kp f3, kp f4, kp f5, fun _ => rfl, kp f7, kp f8, kp f9, kp f10, kp f11, kp f12, fun q => (let ⟨BW, e, h1, h2⟩ := f13 (done_old q (by decide)); ⟨BW, e, h1, fun q2 => (h2 (by rw [getD_set_ne false (by decide)] at q2; exact q2)).gr gg⟩), fun q => (let ⟨a1, BW, e, h1, h2⟩ := f14 (done_old q (by decide)); ⟨getD_set_true a1, BW, e, h1, h2.gr gg⟩)⟩
  · rintro done a w hsz hnot hdep ⟨t18, t57, t58, t59, t60, t61, t62, t63, t64, t65, t66, t67, t68, t69, rfl, gw, f0, f1, f2, f3, f4, f5, f6, f7, f8, f9, f10, f11, f12, f13, f14⟩ K hK
    have hn : ¬ done.getD 7 false = true := by rw [getD_both hnot]; decide
    have d5 := hdep 5 (by kernel_rfl)
    obtain rfl := f5 d5
    have r := hp.box.gr gw
    have c0 := r.cell 0 (by simp)
    have c1 := r.cell 1 (by simp)
    have c2 := r.cell 2 (by simp)
    have ch := r.has
    simp only [List.getElem_cons_zero, List.getElem_cons_succ] at c0 c1 c2
    clear r
    have HK := PLift.up hK
    clear hK d5
    simp only [ch16tA]
    go_simp
    have gg : Gr w w := Gr.refl _
    refine HK.down _ _ ⟨_, _, _, _, _, _, _, _, _, _, _, _, _, _, rfl, gw, kp f0, kp f1, kp f2, kp f3, kp f4, kp f5, kp f6, fun _ => rfl, kp f8, kp f9, kp f10, kp f11, kp f12, fun q => (let ⟨BW, e, h1, h2⟩ := f13 (done_old q (by decide)); ⟨BW, e, h1, fun q2 => (h2 (by rw [getD_set_ne false (by decide)] at q2; exact q2)).gr gg⟩), fun q => (let ⟨a1, BW, e, h1, h2⟩ := f14 (done_old q (by decide)); ⟨getD_set_true a1, BW, e, h1, h2.gr gg⟩)⟩
  · rintro done a w hsz hnot hdep ⟨t18, t57, t58, t59, t60, t61, t62, t63, t64, t65, t66, t67, t68, t69, rfl, gw, f0, f1, f2, f3, f4, f5, f6, f7, f8, f9, f10, f11, f12, f13, f14⟩ K hK
    have hn : ¬ done.getD 8 false = true := by rw [getD_both hnot]; decide
    have d5 := hdep 5 (by kernel_rfl)
    obtain rfl := f5 d5
    have HK := PLift.up hK
    clear hK d5
    simp only [ch16tA]
    go_simp
    have gg : Gr w w := Gr.refl _
    refine HK.down _ _ ⟨_, _, _, _, _, _, _, _, _, _, _, _, _, _, rfl, gw, kp f0, kp f1, kp f2, kp f3, kp f4, kp f5, kp f6, kp f7, fun _ => rfl, kp f9, kp f10, kp f11, kp f12, fun q => (let ⟨BW, e, h1, h2⟩ := f13 (done_old q (by decide)); ⟨BW, e, h1, fun q2 => (h2 (by rw [getD_set_ne false (by decide)] at q2; exact q2)).gr gg⟩), fun q => (let ⟨a1, BW, e, h1, h2⟩ := f14 (done_old q (by decide)); ⟨getD_set_true a1, BW, e, h1, h2.gr gg⟩)⟩
  · rintro done a w hsz hnot hdep ⟨t18, t57, t58, t59, t60, t61, t62, t63, t64, t65, t66, t67, t68, t69, rfl, gw, f0, f1, f2, f3, f4, f5, f6, f7, f8, f9, f10, f11, f12, f13, f14⟩ K hK
    have hn : ¬ done.getD 9 false = true := by rw [getD_both hnot]; decide
    have d5 := hdep 5 (by kernel_rfl)
    have d7 := hdep 7 (by kernel_rfl)
    have d8 := hdep 8 (by kernel_rfl)
    obtain rfl := f5 d5
    obtain rfl := f7 d7
    obtain rfl := f8 d8
    have HK := PLift.up hK
    clear hK d5 d7 d8
    simp only [ch16tA]
    go_simp
    have NM := number_any l t al at' am cl ct ms.length cm (.map (some BK)) w (clks_gr HE.down.clks (hp.gr.trans gw)) (ST.down.giI (hp.gr.trans gw)) HE.down.chk HT.down
    rw [HT.down.1] at NM
    refine NM.mono ?_
    rintro e w2 ⟨rfl, hg⟩
    have gg : Gr w w2 := hg
    clear hg
    (try go_simp)
    refine HK.down _ _ ⟨_, _, _, _, _, _, _, _, _, _, _, _, _, _, rfl, gw.trans gg, kp f0, kp f1, kp f2, kp f3, kp f4, kp f5, kp f6, kp f7, kp f8, fun _ => rfl, kp f10, kp f11, kp f12, fun q => (let ⟨BW, e, h1, h2⟩ := f13 (done_old q (by decide)); ⟨BW, e, h1, fun q2 => (h2 (by rw [getD_set_ne false (by decide)] at q2; exact q2)).gr gg⟩), fun q => (let ⟨a1, BW, e, h1, h2⟩ := f14 (done_old q (by decide)); ⟨getD_set_true a1, BW, e, h1, h2.gr gg⟩)⟩
  · rintro done a w hsz hnot hdep ⟨t18, t57, t58, t59, t60, t61, t62, t63, t64, t65, t66, t67, t68, t69, rfl, gw, f0, f1, f2, f3, f4, f5, f6, f7, f8, f9, f10, f11, f12, f13, f14⟩ K hK
    have hn : ¬ done.getD 10 false = true := by rw [getD_both hnot]; decide
    have d5 := hdep 5 (by kernel_rfl)
    have d6 := hdep 6 (by kernel_rfl)
    have d9 := hdep 9 (by kernel_rfl)
    obtain rfl := f5 d5
    obtain rfl := f6 d6
    obtain rfl := f9 d9
    have LK : (Instr.lookup 125 (.map (some BM)) (.int .i64 (num l t)) false).run Tryz.prog w = .ok (.bool y) w := by
      have := run_look_b (MP.gr gw) (wide_num HE.down.chk HT.down)
      rw [this, look_ent HO.down HT.down]
      have hx := HY.down
      split <;> rename_i hm <;> simp [hm] at hx <;> simp [hx]
    have HK := PLift.up hK
    clear hK d5 d6 d9
    simp only [ch16tA]
    go_simp
    have gg : Gr w w := Gr.refl _
    refine HK.down _ _ ⟨_, _, _, _, _, _, _, _, _, _, _, _, _, _, rfl, gw, kp f0, kp f1, kp f2, kp f3, kp f4, kp f5, kp f6, kp f7, kp f8, kp f9, fun _ => rfl, kp f11, kp f12, fun q => (let ⟨BW, e, h1, h2⟩ := f13 (done_old q (by decide)); ⟨BW, e, h1, fun q2 => (h2 (by rw [getD_set_ne false (by decide)] at q2; exact q2)).gr gg⟩), fun q => (let ⟨a1, BW, e, h1, h2⟩ := f14 (done_old q (by decide)); ⟨getD_set_true a1, BW, e, h1, h2.gr gg⟩)⟩
  · rintro done a w hsz hnot hdep ⟨t18, t57, t58, t59, t60, t61, t62, t63, t64, t65, t66, t67, t68, t69, rfl, gw, f0, f1, f2, f3, f4, f5, f6, f7, f8, f9, f10, f11, f12, f13, f14⟩ K hK
    have hn : ¬ done.getD 11 false = true := by rw [getD_both hnot]; decide
    have d5 := hdep 5 (by kernel_rfl)
    have d10 := hdep 10 (by kernel_rfl)
    obtain rfl := f5 d5
    obtain rfl := f10 d10
    have HK := PLift.up hK
    clear hK d5 d10
    simp only [ch16tA]
    go_simp
    have gg : Gr w w := Gr.refl _
    refine HK.down _ _ ⟨_, _, _, _, _, _, _, _, _, _, _, _, _, _, rfl, gw, kp f0, kp f1, kp f2, kp f3, kp f4, kp f5, kp f6, kp f7, kp f8, kp f9, kp f10, fun _ => rfl, kp f12, fun q => (let ⟨BW, e, h1, h2⟩ := f13 (done_old q (by decide)); ⟨BW, e, h1, fun q2 => (h2 (by rw [getD_set_ne false (by decide)] at q2; exact q2)).gr gg⟩), fun q => (let ⟨a1, BW, e, h1, h2⟩ := f14 (done_old q (by decide)); ⟨getD_set_true a1, BW, e, h1, h2.gr gg⟩)⟩
  · rintro done a w hsz hnot hdep ⟨t18, t57, t58, t59, t60, t61, t62, t63, t64, t65, t66, t67, t68, t69, rfl, gw, f0, f1, f2, f3, f4, f5, f6, f7, f8, f9, f10, f11, f12, f13, f14⟩ K hK
    have hn : ¬ done.getD 12 false = true := by rw [getD_both hnot]; decide
    have d5 := hdep 5 (by kernel_rfl)
    have d11 := hdep 11 (by kernel_rfl)
    obtain rfl := f5 d5
    obtain rfl := f11 d11
    have HK := PLift.up hK
    clear hK d5 d11
    simp only [ch16tA]
    go_simp
    have gg : Gr w w := Gr.refl _
    refine HK.down _ _ ⟨_, _, _, _, _, _, _, _, _, _, _, _, _, _, rfl, gw, kp f0, kp f1, kp f2, kp f3, kp f4, kp f5, kp f6, kp f7, kp f8, kp f9, kp f10, kp f11, fun _ => rfl, fun q => (let ⟨BW, e, h1, h2⟩ := f13 (done_old q (by decide)); ⟨BW, e, h1, fun q2 => (h2 (by rw [getD_set_ne false (by decide)] at q2; exact q2)).gr gg⟩), fun q => (let ⟨a1, BW, e, h1, h2⟩ := f14 (done_old q (by decide)); ⟨getD_set_true a1, BW, e, h1, h2.gr gg⟩)⟩
  · rintro done a w hsz hnot hdep ⟨t18, t57, t58, t59, t60, t61, t62, t63, t64, t65, t66, t67, t68, t69, rfl, gw, f0, f1, f2, f3, f4, f5, f6, f7, f8, f9, f10, f11, f12, f13, f14⟩ K hK
    have hn : ¬ done.getD 13 false = true := by rw [getD_both hnot]; decide
    have HK := PLift.up hK
    clear hK 
    simp only [ch16tA]
    go_simp
    have gg : Gr w (w.alloc (.cells #[.bool false] 4)) := (Gr.refl _).alloc _
    refine HK.down _ _ ⟨_, _, _, _, _, _, _, _, _, _, _, _, _, _, rfl, gw.trans gg, kp f0, kp f1, kp f2, kp f3, kp f4, kp f5, kp f6, kp f7, kp f8, kp f9, kp f10, kp f11, kp f12, ?_, fun q => absurd (f14 (done_old q (by decide))).1 hn⟩
    exact fun _ => ⟨_, rfl, gw.size, fun _ => Row.new w _ _⟩
  · rintro done a w hsz hnot hdep ⟨t18, t57, t58, t59, t60, t61, t62, t63, t64, t65, t66, t67, t68, t69, rfl, gw, f0, f1, f2, f3, f4, f5, f6, f7, f8, f9, f10, f11, f12, f13, f14⟩ K hK
    have hn : ¬ done.getD 14 false = true := by rw [getD_both hnot]; decide
    have d12 := hdep 12 (by kernel_rfl)
    have d13 := hdep 13 (by kernel_rfl)
    obtain rfl := f12 d12
    have n14 := getD_both hnot
    obtain ⟨BW, rfl, h2, h3⟩ := f13 d13
    have r := h3 n14
    have c0 := r.cell 0 (by simp)
    have cf := r.free 0
    have ch := r.has
    simp only [List.getElem_cons_zero] at c0
    have RR := PLift.up r
    have H2 := PLift.up h2
    clear r h3 h2
    have HK := PLift.up hK
    clear hK d12
    simp only [ch16tA]
    go_simp
    refine HK.down _ _ ⟨_, _, _, _, _, _, _, _, _, _, _, _, _, _, rfl, gw.setc H2.down, kp f0, kp f1, kp f2, kp f3, kp f4, kp f5, kp f6, kp f7, kp f8, kp f9, kp f10, kp f11, kp f12, fun _ => ⟨BW, rfl, H2.down, fun q => absurd q (by rw [getD_set_same (by rw [hsz]; decide)]; decide)⟩, ?_⟩
    exact fun _ => ⟨getD_set_true d13, BW, rfl, H2.down, RR.down.set 0 _⟩
  · rintro done a w hall ⟨t18, t57, t58, t59, t60, t61, t62, t63, t64, t65, t66, t67, t68, t69, rfl, gw, f0, f1, f2, f3, f4, f5, f6, f7, f8, f9, f10, f11, f12, f13, f14⟩
    obtain ⟨_, BW, rfl, h1, h2⟩ := f14 (hall 14 (by decide))
    exact h' _ _ _ _ _ _ _ _ _ _ _ _ _ BW w gw h1 h2
def ch16fF (w0 wr : World) (l : List Clk) (ms : List Lmt) (f t : List Int) (al am af at' : Option Addr) (cl cm cf ct BK XP BI BM : Nat) (y : Bool) (t18 t57 t58 t59 t60 t61 t62 t63 t64 t65 t66 t67 t68 t69 : Value) (d : Array Bool) (w : World) : Prop :=
  Gr wr w ∧ (d.getD 0 false = true → t57 = .map (some BM)) ∧
  (d.getD 1 false = true → t58 = .agg #[.slice al l.length cl, .slice am ms.length cm, .map (some BK)]) ∧
  (d.getD 2 false = true → t59 = .slice af l.length cf) ∧
  (d.getD 3 false = true → t60 = .int .i64 (num l f)) ∧
  (d.getD 4 false = true → t61 = .bool false) ∧
  (d.getD 5 false = true → t62 = .bool false) ∧
  (d.getD 6 false = true → True) ∧
  (d.getD 7 false = true → True) ∧
  (d.getD 8 false = true → True) ∧
  (d.getD 9 false = true → True) ∧
  (d.getD 10 false = true → True) ∧
  (d.getD 11 false = true → True) ∧
  (d.getD 12 false = true → t69 = .bool false) ∧
  (d.getD 13 false = true → (∃ BW, t18 = .pointer (some ⟨BW, 0, none⟩) ∧ wr.heap.size ≤ BW ∧ (d.getD 14 false = false → Row w BW 4 [.bool false]))) ∧
  (d.getD 14 false = true → (d.getD 13 false = true ∧ ∃ BW, t18 = .pointer (some ⟨BW, 0, none⟩) ∧ wr.heap.size ≤ BW ∧ Row w BW 4 [.bool (false)]))
def ch16fA (l : List Clk) (af at' : Option Addr) (cf ct XP BI : Nat) (t18 t57 t58 t59 t60 t61 t62 t63 t64 t65 t66 t67 t68 t69 s0 s3 s4 s5 s6 s7 s8 s9 s10 s12 s14 s15 s16 s17 s19 s20 s21 s22 s23 s24 s25 s26 s27 s28 s29 s30 s31 s32 s33 s34 s35 s36 s37 s38 s39 s40 s41 s42 s43 s44 s45 s46 s47 s48 s49 s50 s51 s52 s53 s54 s55 s56 s70 s71 s72 s73 s74 s75 s76 s77 s78 s79 s80 : Value) : Act := { tmps := #[s0, .slice af l.length cf, .slice at' l.length ct, s3, s4, s5, s6, s7, s8, s9, s10, .pointer (some ⟨XP, 0, none⟩), s12, .pointer (some ⟨BI, 0, none⟩), s14, s15, s16, s17, t18, s19, s20, s21, s22, s23, s24, s25, s26, s27, s28, s29, s30, s31, s32, s33, s34, s35, s36, s37, s38, s39, s40, s41, s42, s43, s44, s45, s46, s47, s48, s49, s50, s51, s52, s53, s54, s55, s56, t57, t58, t59, t60, t61, t62, t63, t64, t65, t66, t67, t68, t69, s70, s71, s72, s73, s74, s75, s76, s77, s78, s79, s80], defers := [] }
theorem ch16f {Q : Exit → Act → World → Prop} {w0 wr : World} {l : List Clk} {ms : List Lmt} {f t : List Int} {al am af at' : Option Addr} {cl cm cf ct BK XP BI BM : Nat} {y : Bool}  {s0 s3 s4 s5 s6 s7 s8 s9 s10 s12 s14 s15 s16 s17 s18 s19 s20 s21 s22 s23 s24 s25 s26 s27 s28 s29 s30 s31 s32 s33 s34 s35 s36 s37 s38 s39 s40 s41 s42 s43 s44 s45 s46 s47 s48 s49 s50 s51 s52 s53 s54 s55 s56 s57 s58 s59 s60 s61 s62 s63 s64 s65 s66 s67 s68 s69 s70 s71 s72 s73 s74 s75 s76 s77 s78 s79 s80 : Value} {cs : List (List Int)} (hp : PB l ms al am cl cm BK XP w0 wr wr) (BX : Row wr BI 125 [.map (some BM)]) (MP : MapB wr BM (entV l cs)) (he : Env w0 l ms al am) (ho : ListOk l cs) (hf : SetOk l f) (ht : SetOk l t) (sf : SlOf 1 RI w0 af f) (st : SlOf 1 RI w0 at' t) (hx : decide (f ∈ cs) = false) (hy : decide (t ∈ cs) = y)
    (h' : ∀ t57 t58 t59 t60 t61 t62 t63 t64 t65 t66 t67 t68 t69 BW wx, Gr wr wx → wr.heap.size ≤ BW → Row wx BW 4 [.bool (false)] → Q .normal (ch16fA l af at' cf ct XP BI (.pointer (some ⟨BW, 0, none⟩)) t57 t58 t59 t60 t61 t62 t63 t64 t65 t66 t67 t68 t69 s0 s3 s4 s5 s6 s7 s8 s9 s10 s12 s14 s15 s16 s17 s19 s20 s21 s22 s23 s24 s25 s26 s27 s28 s29 s30 s31 s32 s33 s34 s35 s36 s37 s38 s39 s40 s41 s42 s43 s44 s45 s46 s47 s48 s49 s50 s51 s52 s53 s54 s55 s56 s70 s71 s72 s73 s74 s75 s76 s77 s78 s79 s80) wx) :
    (Code.region 16 (regIn 16 Tryz.f32) true).wp Tryz.prog Q { tmps := #[s0, .slice af l.length cf, .slice at' l.length ct, s3, s4, s5, s6, s7, s8, s9, s10, .pointer (some ⟨XP, 0, none⟩), s12, .pointer (some ⟨BI, 0, none⟩), s14, s15, s16, s17, s18, s19, s20, s21, s22, s23, s24, s25, s26, s27, s28, s29, s30, s31, s32, s33, s34, s35, s36, s37, s38, s39, s40, s41, s42, s43, s44, s45, s46, s47, s48, s49, s50, s51, s52, s53, s54, s55, s56, s57, s58, s59, s60, s61, s62, s63, s64, s65, s66, s67, s68, s69, s70, s71, s72, s73, s74, s75, s76, s77, s78, s79, s80], defers := [] } wr := by
  have HE := PLift.up he
  have HO := PLift.up ho
  have HF := PLift.up hf
  have HT := PLift.up ht
  have SF := PLift.up sf
  have ST := PLift.up st
  have HX := PLift.up hx
  have HY := PLift.up hy
  clear he ho hf ht sf st hx hy
  simp only [regIn, Tryz.f32, regOps, Option.bind_some, Option.getD_some, Nat.beq, cond_true, cond_false]
  refine wp_region_steps (fun done a w => ∃ t18 t57 t58 t59 t60 t61 t62 t63 t64 t65 t66 t67 t68 t69, a = ch16fA l af at' cf ct XP BI t18 t57 t58 t59 t60 t61 t62 t63 t64 t65 t66 t67 t68 t69 s0 s3 s4 s5 s6 s7 s8 s9 s10 s12 s14 s15 s16 s17 s19 s20 s21 s22 s23 s24 s25 s26 s27 s28 s29 s30 s31 s32 s33 s34 s35 s36 s37 s38 s39 s40 s41 s42 s43 s44 s45 s46 s47 s48 s49 s50 s51 s52 s53 s54 s55 s56 s70 s71 s72 s73 s74 s75 s76 s77 s78 s79 s80 ∧ ch16fF w0 wr l ms f t al am af at' cl cm cf ct BK XP BI BM y t18 t57 t58 t59 t60 t61 t62 t63 t64 t65 t66 t67 t68 t69 done w) (by kernel_rfl) (by kernel_rfl) ?_ ⟨?_, ?_, ?_, ?_, ?_, ?_, ?_, ?_, ?_, ?_, ?_, ?_, ?_, ?_, ?_, trivial⟩ ?_
  · exact ⟨s18, s57, s58, s59, s60, s61, s62, s63, s64, s65, s66, s67, s68, s69, rfl, (Gr.refl _).drew, fun q => absurd q (by decide), fun q => absurd q (by decide), fun q => absurd q (by decide), fun q => absurd q (by decide), fun q => absurd q (by decide), fun q => absurd q (by decide), fun q => absurd q (by decide), fun q => absurd q (by decide), fun q => absurd q (by decide), fun q => absurd q (by decide), fun q => absurd q (by decide), fun q => absurd q (by decide), fun q => absurd q (by decide), fun q => absurd q (by decide), fun q => absurd q (by decide)⟩
  · rintro done a w hsz hnot hdep ⟨t18, t57, t58, t59, t60, t61, t62, t63, t64, t65, t66, t67, t68, t69, rfl, gw, f0, f1, f2, f3, f4, f5, f6, f7, f8, f9, f10, f11, f12, f13, f14⟩ K hK
    have hn : ¬ done.getD 0 false = true := by rw [getD_both hnot]; decide
    have r := BX.gr gw
    have c0 := r.cell 0 (by simp)
    have ch := r.has
    simp only [List.getElem_cons_zero] at c0
    clear r
    have HK := PLift.up hK
    clear hK 
    simp only [ch16fA]
    go_simp
    have gg : Gr w w := Gr.refl _
    refine HK.down _ _ ⟨_, _, _, _, _, _, _, _, _, _, _, _, _, _, rfl, gw, fun _ => rfl, kp f1, kp f2, kp f3, kp f4, kp f5, kp f6, kp f7, kp f8, kp f9, kp f10, kp f11, kp f12, fun q => (let ⟨BW, e, h1, h2⟩ := f13 (done_old q (by decide)); ⟨BW, e, h1, fun q2 => (h2 (by rw [getD_set_ne false (by decide)] at q2; exact q2)).gr gg⟩), fun q => (let ⟨a1, BW, e, h1, h2⟩ := f14 (done_old q (by decide)); ⟨getD_set_true a1, BW, e, h1, h2.gr gg⟩)⟩
  · rintro done a w hsz hnot hdep ⟨t18, t57, t58, t59, t60, t61, t62, t63, t64, t65, t66, t67, t68, t69, rfl, gw, f0, f1, f2, f3, f4, f5, f6, f7, f8, f9, f10, f11, f12, f13, f14⟩ K hK
    have hn : ¬ done.getD 1 false = true := by rw [getD_both hnot]; decide
    have r := hp.box.gr gw
    have c0 := r.cell 0 (by simp)
    have c1 := r.cell 1 (by simp)
    have c2 := r.cell 2 (by simp)
    have ch := r.has
    simp only [List.getElem_cons_zero, List.getElem_cons_succ] at c0 c1 c2
    clear r
    have HK := PLift.up hK
    clear hK 
    simp only [ch16fA]
    go_simp
    have gg : Gr w w := Gr.refl _
    refine HK.down _ _ ⟨_, _, _, _, _, _, _, _, _, _, _, _, _, _, rfl, gw, kp f0, fun _ => rfl, kp f2, kp f3, kp f4, kp f5, kp f6, kp f7, kp f8, kp f9, kp f10, kp f11, kp f12, fun q => (let ⟨BW, e, h1, h2⟩ := f13 (done_old q (by decide)); ⟨BW, e, h1, fun q2 => (h2 (by rw [getD_set_ne false (by decide)] at q2; exact q2)).gr gg⟩), fun q => (let ⟨a1, BW, e, h1, h2⟩ := f14 (done_old q (by decide)); ⟨getD_set_true a1, BW, e, h1, h2.gr gg⟩)⟩
  · rintro done a w hsz hnot hdep ⟨t18, t57, t58, t59, t60, t61, t62, t63, t64, t65, t66, t67, t68, t69, rfl, gw, f0, f1, f2, f3, f4, f5, f6, f7, f8, f9, f10, f11, f12, f13, f14⟩ K hK
    have hn : ¬ done.getD 2 false = true := by rw [getD_both hnot]; decide
    have HK := PLift.up hK
    clear hK 
    simp only [ch16fA]
    go_simp
    have gg : Gr w w := Gr.refl _
    refine HK.down _ _ ⟨_, _, _, _, _, _, _, _, _, _, _, _, _, _, rfl, gw, kp f0, kp f1, fun _ => rfl, kp f3, kp f4, kp f5, kp f6, kp f7, kp f8, kp f9, kp f10, kp f11, kp f12, fun q => (let ⟨BW, e, h1, h2⟩ := f13 (done_old q (by decide)); ⟨BW, e, h1, fun q2 => (h2 (by rw [getD_set_ne false (by decide)] at q2; exact q2)).gr gg⟩), fun q => (let ⟨a1, BW, e, h1, h2⟩ := f14 (done_old q (by decide)); ⟨getD_set_true a1, BW, e, h1, h2.gr gg⟩)⟩
  · rintro done a w hsz hnot hdep ⟨t18, t57, t58, t59, t60, t61, t62, t63, t64, t65, t66, t67, t68, t69, rfl, gw, f0, f1, f2, f3, f4, f5, f6, f7, f8, f9, f10, f11, f12, f13, f14⟩ K hK
    have hn : ¬ done.getD 3 false = true := by rw [getD_both hnot]; decide
    have d1 := hdep 1 (by kernel_rfl)
    have d2 := hdep 2 (by kernel_rfl)
    obtain rfl := f1 d1
    obtain rfl := f2 d2
    have HK := PLift.up hK
    clear hK d1 d2
    simp only [ch16fA]
    go_simp
    have NM := number_any l f al af am cl cf ms.length cm (.map (some BK)) w (clks_gr HE.down.clks (hp.gr.trans gw)) (SF.down.giI (hp.gr.trans gw)) HE.down.chk HF.down
    rw [HF.down.1] at NM
    refine NM.mono ?_
    rintro e w2 ⟨rfl, hg⟩
    have gg : Gr w w2 := hg
    clear hg
    (try go_simp)
    refine HK.down _ _ ⟨_, _, _, _, _, _, _, _, _, _, _, _, _, _, rfl, gw.trans gg, kp f0, kp f1, kp f2, fun _ => rfl, kp f4, kp f5, kp f6, kp f7, kp f8, kp f9, kp f10, kp f11, kp f12, fun q => (let ⟨BW, e, h1, h2⟩ := f13 (done_old q (by decide)); ⟨BW, e, h1, fun q2 => (h2 (by rw [getD_set_ne false (by decide)] at q2; exact q2)).gr gg⟩), fun q => (let ⟨a1, BW, e, h1, h2⟩ := f14 (done_old q (by decide)); ⟨getD_set_true a1, BW, e, h1, h2.gr gg⟩)⟩
  · rintro done a w hsz hnot hdep ⟨t18, t57, t58, t59, t60, t61, t62, t63, t64, t65, t66, t67, t68, t69, rfl, gw, f0, f1, f2, f3, f4, f5, f6, f7, f8, f9, f10, f11, f12, f13, f14⟩ K hK
    have hn : ¬ done.getD 4 false = true := by rw [getD_both hnot]; decide
    have d0 := hdep 0 (by kernel_rfl)
    have d3 := hdep 3 (by kernel_rfl)
    obtain rfl := f0 d0
    obtain rfl := f3 d3
    have LK : (Instr.lookup 125 (.map (some BM)) (.int .i64 (num l f)) false).run Tryz.prog w = .ok (.bool false) w := by
      have := run_look_b (MP.gr gw) (wide_num HE.down.chk HF.down)
      rw [this, look_ent HO.down HF.down]
      have hx := HX.down
      split <;> rename_i hm <;> simp [hm] at hx <;> simp [hx]
    have HK := PLift.up hK
    clear hK d0 d3
    simp only [ch16fA]
    go_simp
    have gg : Gr w w := Gr.refl _
    refine HK.down _ _ ⟨_, _, _, _, _, _, _, _, _, _, _, _, _, _, rfl, gw, kp f0, kp f1, kp f2, kp f3, fun _ => rfl, kp f5, kp f6, kp f7, kp f8, kp f9, kp f10, kp f11, kp f12, fun q => (let ⟨BW, e, h1, h2⟩ := f13 (done_old q (by decide)); ⟨BW, e, h1, fun q2 => (h2 (by rw [getD_set_ne false (by decide)] at q2; exact q2)).gr gg⟩), fun q => (let ⟨a1, BW, e, h1, h2⟩ := f14 (done_old q (by decide)); ⟨getD_set_true a1, BW, e, h1, h2.gr gg⟩)⟩
  · rintro done a w hsz hnot hdep ⟨t18, t57, t58, t59, t60, t61, t62, t63, t64, t65, t66, t67, t68, t69, rfl, gw, f0, f1, f2, f3, f4, f5, f6, f7, f8, f9, f10, f11, f12, f13, f14⟩ K hK
    have hn : ¬ done.getD 5 false = true := by rw [getD_both hnot]; decide
    have d4 := hdep 4 (by kernel_rfl)
    obtain rfl := f4 d4
    have HK := PLift.up hK
    clear hK d4
    simp only [ch16fA]
    go_simp
    have gg : Gr w w := Gr.refl _
    refine HK.down _ _ ⟨_, _, _, _, _, _, _, _, _, _, _, _, _, _, rfl, gw, kp f0, kp f1, kp f2, kp f3, kp f4, fun _ => rfl, kp f6, kp f7, kp f8, kp f9, kp f10, kp f11, kp f12, fun q => (let ⟨BW, e, h1, h2⟩ := f13 (done_old q (by decide)); ⟨BW, e, h1, fun q2 => (h2 (by rw [getD_set_ne false (by decide)] at q2; exact q2)).gr gg⟩), fun q => (let ⟨a1, BW, e, h1, h2⟩ := f14 (done_old q (by decide)); ⟨getD_set_true a1, BW, e, h1, h2.gr gg⟩)⟩
  · rintro done a w hsz hnot hdep ⟨t18, t57, t58, t59, t60, t61, t62, t63, t64, t65, t66, t67, t68, t69, rfl, gw, f0, f1, f2, f3, f4, f5, f6, f7, f8, f9, f10, f11, f12, f13, f14⟩ K hK
    have hn : ¬ done.getD 6 false = true := by rw [getD_both hnot]; decide
    have d5 := hdep 5 (by kernel_rfl)
    obtain rfl := f5 d5
    have HK := PLift.up hK
    clear hK d5
    simp only [ch16fA]
    go_simp
    have gg : Gr w w := Gr.refl _
    refine HK.down _ _ ⟨_, _, _, _, _, _, _, _, _, _, _, _, _, _, rfl, gw, kp f0, kp f1, kp f2, kp f3, kp f4, kp f5, ?_, kp f7, kp f8, kp f9, kp f10, kp f11, kp f12, fun q => (let ⟨BW, e, h1, h2⟩ := f13 (done_old q (by decide)); ⟨BW, e, h1, fun q2 => (h2 (by rw [getD_set_ne false (by decide)] at q2; exact q2)).gr gg⟩), fun q => (let ⟨a1, BW, e, h1, h2⟩ := f14 (done_old q (by decide)); ⟨getD_set_true a1, BW, e, h1, h2.gr gg⟩)⟩
    exact fun _ => trivial
  · rintro done a w hsz hnot hdep ⟨t18, t57, t58, t59, t60, t61, t62, t63, t64, t65, t66, t67, t68, t69, rfl, gw, f0, f1, f2, f3, f4, f5, f6, f7, f8, f9, f10, f11, f12, f13, f14⟩ K hK
    have hn : ¬ done.getD 7 false = true := by rw [getD_both hnot]; decide
    have d5 := hdep 5 (by kernel_rfl)
    obtain rfl := f5 d5
    have HK := PLift.up hK
    clear hK d5
    simp only [ch16fA]
    go_simp
    have gg : Gr w w := Gr.refl _
    refine HK.down _ _ ⟨_, _, _, _, _, _, _, _, _, _, _, _, _, _, rfl, gw, kp f0, kp f1, kp f2, kp f3, kp f4, kp f5, kp f6, ?_, kp f8, kp f9, kp f10, kp f11, kp f12, fun q => (let ⟨BW, e, h1, h2⟩ := f13 (done_old q (by decide)); ⟨BW, e, h1, fun q2 => (h2 (by rw [getD_set_ne false (by decide)] at q2; exact q2)).gr gg⟩), fun q => (let ⟨a1, BW, e, h1, h2⟩ := f14 (done_old q (by decide)); ⟨getD_set_true a1, BW, e, h1, h2.gr gg⟩)⟩
    exact fun _ => trivial
  · rintro done a w hsz hnot hdep ⟨t18, t57, t58, t59, t60, t61, t62, t63, t64, t65, t66, t67, t68, t69, rfl, gw, f0, f1, f2, f3, f4, f5, f6, f7, f8, f9, f10, f11, f12, f13, f14⟩ K hK
    have hn : ¬ done.getD 8 false = true := by rw [getD_both hnot]; decide
    have d5 := hdep 5 (by kernel_rfl)
    obtain rfl := f5 d5
    have HK := PLift.up hK
    clear hK d5
    simp only [ch16fA]
    go_simp
    have gg : Gr w w := Gr.refl _
    refine HK.down _ _ ⟨_, _, _, _, _, _, _, _, _, _, _, _, _, _, rfl, gw, kp f0, kp f1, kp f2, kp f3, kp f4, kp f5, kp f6, kp f7, ?_, kp f9, kp f10, kp f11, kp f12, fun q => (let ⟨BW, e, h1, h2⟩ := f13 (done_old q (by decide)); ⟨BW, e, h1, fun q2 => (h2 (by rw [getD_set_ne false (by decide)] at q2; exact q2)).gr gg⟩), fun q => (let ⟨a1, BW, e, h1, h2⟩ := f14 (done_old q (by decide)); ⟨getD_set_true a1, BW, e, h1, h2.gr gg⟩)⟩
    exact fun _ => trivial
  · rintro done a w hsz hnot hdep ⟨t18, t57, t58, t59, t60, t61, t62, t63, t64, t65, t66, t67, t68, t69, rfl, gw, f0, f1, f2, f3, f4, f5, f6, f7, f8, f9, f10, f11, f12, f13, f14⟩ K hK
    have hn : ¬ done.getD 9 false = true := by rw [getD_both hnot]; decide
    have d5 := hdep 5 (by kernel_rfl)
    obtain rfl := f5 d5
    have HK := PLift.up hK
    clear hK d5
    simp only [ch16fA]
    go_simp
    have gg : Gr w w := Gr.refl _
    refine HK.down _ _ ⟨_, _, _, _, _, _, _, _, _, _, _, _, _, _, rfl, gw, kp f0, kp f1, kp f2, kp f3, kp f4, kp f5, kp f6, kp f7, kp f8, ?_, kp f10, kp f11, kp f12, fun q => (let ⟨BW, e, h1, h2⟩ := f13 (done_old q (by decide)); ⟨BW, e, h1, fun q2 => (h2 (by rw [getD_set_ne false (by decide)] at q2; exact q2)).gr gg⟩), fun q => (let ⟨a1, BW, e, h1, h2⟩ := f14 (done_old q (by decide)); ⟨getD_set_true a1, BW, e, h1, h2.gr gg⟩)⟩
    exact fun _ => trivial
  · rintro done a w hsz hnot hdep ⟨t18, t57, t58, t59, t60, t61, t62, t63, t64, t65, t66, t67, t68, t69, rfl, gw, f0, f1, f2, f3, f4, f5, f6, f7, f8, f9, f10, f11, f12, f13, f14⟩ K hK
    have hn : ¬ done.getD 10 false = true := by rw [getD_both hnot]; decide
    have d5 := hdep 5 (by kernel_rfl)
    obtain rfl := f5 d5
    have HK := PLift.up hK
    clear hK d5
    simp only [ch16fA]
    go_simp
    have gg : Gr w w := Gr.refl _
    refine HK.down _ _ ⟨_, _, _, _, _, _, _, _, _, _, _, _, _, _, rfl, gw, kp f0, kp f1, kp f2, kp f3, kp f4, kp f5, kp f6, kp f7, kp f8, kp f9, ?_, kp f11, kp f12, fun q => (let ⟨BW, e, h1, h2⟩ := f13 (done_old q (by decide)); ⟨BW, e, h1, fun q2 => (h2 (by rw [getD_set_ne false (by decide)] at q2; exact q2)).gr gg⟩), fun q => (let ⟨a1, BW, e, h1, h2⟩ := f14 (done_old q (by decide)); ⟨getD_set_true a1, BW, e, h1, h2.gr gg⟩)⟩
    exact fun _ => trivial
  · rintro done a w hsz hnot hdep ⟨t18, t57, t58, t59, t60, t61, t62, t63, t64, t65, t66, t67, t68, t69, rfl, gw, f0, f1, f2, f3, f4, f5, f6, f7, f8, f9, f10, f11, f12, f13, f14⟩ K hK
    have hn : ¬ done.getD 11 false = true := by rw [getD_both hnot]; decide
    have d5 := hdep 5 (by kernel_rfl)
    obtain rfl := f5 d5
    have HK := PLift.up hK
    clear hK d5
    simp only [ch16fA]
    go_simp
    have gg : Gr w w := Gr.refl _
    refine HK.down _ _ ⟨_, _, _, _, _, _, _, _, _, _, _, _, _, _, rfl, gw, kp f0, kp f1, kp f2, kp f3, kp f4, kp f5, kp f6, kp f7, kp f8, kp f9, kp f10, ?_, kp f12, fun q => (let ⟨BW, e, h1, h2⟩ := f13 (done_old q (by decide)); ⟨BW, e, h1, fun q2 => (h2 (by rw [getD_set_ne false (by decide)] at q2; exact q2)).gr gg⟩), fun q => (let ⟨a1, BW, e, h1, h2⟩ := f14 (done_old q (by decide)); ⟨getD_set_true a1, BW, e, h1, h2.gr gg⟩)⟩
    exact fun _ => trivial
  · rintro done a w hsz hnot hdep ⟨t18, t57, t58, t59, t60, t61, t62, t63, t64, t65, t66, t67, t68, t69, rfl, gw, f0, f1, f2, f3, f4, f5, f6, f7, f8, f9, f10, f11, f12, f13, f14⟩ K hK
    have hn : ¬ done.getD 12 false = true := by rw [getD_both hnot]; decide
    have d5 := hdep 5 (by kernel_rfl)
    obtain rfl := f5 d5
    have HK := PLift.up hK
    clear hK d5
    simp only [ch16fA]
    go_simp
    have gg : Gr w w := Gr.refl _
    refine HK.down _ _ ⟨_, _, _, _, _, _, _, _, _, _, _, _, _, _, rfl, gw, kp f0, kp f1, kp f2, kp f3, kp f4, kp f5, kp f6, kp f7, kp f8, kp f9, kp f10, kp f11, fun _ => rfl, fun q => (let ⟨BW, e, h1, h2⟩ := f13 (done_old q (by decide)); ⟨BW, e, h1, fun q2 => (h2 (by rw [getD_set_ne false (by decide)] at q2; exact q2)).gr gg⟩), fun q => (let ⟨a1, BW, e, h1, h2⟩ := f14 (done_old q (by decide)); ⟨getD_set_true a1, BW, e, h1, h2.gr gg⟩)⟩
  · rintro done a w hsz hnot hdep ⟨t18, t57, t58, t59, t60, t61, t62, t63, t64, t65, t66, t67, t68, t69, rfl, gw, f0, f1, f2, f3, f4, f5, f6, f7, f8, f9, f10, f11, f12, f13, f14⟩ K hK
    have hn : ¬ done.getD 13 false = true := by rw [getD_both hnot]; decide
    have HK := PLift.up hK
    clear hK 
    simp only [ch16fA]
    go_simp
    have gg : Gr w (w.alloc (.cells #[.bool false] 4)) := (Gr.refl _).alloc _
    refine HK.down _ _ ⟨_, _, _, _, _, _, _, _, _, _, _, _, _, _, rfl, gw.trans gg, kp f0, kp f1, kp f2, kp f3, kp f4, kp f5, kp f6, kp f7, kp f8, kp f9, kp f10, kp f11, kp f12, ?_, fun q => absurd (f14 (done_old q (by decide))).1 hn⟩
    exact fun _ => ⟨_, rfl, gw.size, fun _ => Row.new w _ _⟩
  · rintro done a w hsz hnot hdep ⟨t18, t57, t58, t59, t60, t61, t62, t63, t64, t65, t66, t67, t68, t69, rfl, gw, f0, f1, f2, f3, f4, f5, f6, f7, f8, f9, f10, f11, f12, f13, f14⟩ K hK
    have hn : ¬ done.getD 14 false = true := by rw [getD_both hnot]; decide
    have d12 := hdep 12 (by kernel_rfl)
    have d13 := hdep 13 (by kernel_rfl)
    obtain rfl := f12 d12
    have n14 := getD_both hnot
    obtain ⟨BW, rfl, h2, h3⟩ := f13 d13
    have r := h3 n14
    have c0 := r.cell 0 (by simp)
    have cf := r.free 0
    have ch := r.has
    simp only [List.getElem_cons_zero] at c0
    have RR := PLift.up r
    have H2 := PLift.up h2
    clear r h3 h2
    have HK := PLift.up hK
    clear hK d12
    simp only [ch16fA]
    go_simp
    refine HK.down _ _ ⟨_, _, _, _, _, _, _, _, _, _, _, _, _, _, rfl, gw.setc H2.down, kp f0, kp f1, kp f2, kp f3, kp f4, kp f5, kp f6, kp f7, kp f8, kp f9, kp f10, kp f11, kp f12, fun _ => ⟨BW, rfl, H2.down, fun q => absurd q (by rw [getD_set_same (by rw [hsz]; decide)]; decide)⟩, ?_⟩
    exact fun _ => ⟨getD_set_true d13, BW, rfl, H2.down, RR.down.set 0 _⟩
  · rintro done a w hall ⟨t18, t57, t58, t59, t60, t61, t62, t63, t64, t65, t66, t67, t68, t69, rfl, gw, f0, f1, f2, f3, f4, f5, f6, f7, f8, f9, f10, f11, f12, f13, f14⟩
    obtain ⟨_, BW, rfl, h1, h2⟩ := f14 (hall 14 (by decide))
    exact h' _ _ _ _ _ _ _ _ _ _ _ _ _ BW w gw h1 h2
theorem ch16 {Q : Exit → Act → World → Prop} {w0 wr : World} {l : List Clk} {ms : List Lmt} {f t : List Int} {al am af at' : Option Addr} {cl cm cf ct BK XP BI BM : Nat} {x y : Bool}  {s0 s3 s4 s5 s6 s7 s8 s9 s10 s12 s14 s15 s16 s17 s18 s19 s20 s21 s22 s23 s24 s25 s26 s27 s28 s29 s30 s31 s32 s33 s34 s35 s36 s37 s38 s39 s40 s41 s42 s43 s44 s45 s46 s47 s48 s49 s50 s51 s52 s53 s54 s55 s56 s57 s58 s59 s60 s61 s62 s63 s64 s65 s66 s67 s68 s69 s70 s71 s72 s73 s74 s75 s76 s77 s78 s79 s80 : Value} {cs : List (List Int)} (hp : PB l ms al am cl cm BK XP w0 wr wr) (BX : Row wr BI 125 [.map (some BM)]) (MP : MapB wr BM (entV l cs)) (he : Env w0 l ms al am) (ho : ListOk l cs) (hf : SetOk l f) (ht : SetOk l t) (sf : SlOf 1 RI w0 af f) (st : SlOf 1 RI w0 at' t) (hx : decide (f ∈ cs) = x) (hy : decide (t ∈ cs) = y)
    (h' : ∀ t57 t58 t59 t60 t61 t62 t63 t64 t65 t66 t67 t68 t69 BW wx, Gr wr wx → wr.heap.size ≤ BW → Row wx BW 4 [.bool (x && !y)] → Q .normal (ch16tA l af at' cf ct XP BI (.pointer (some ⟨BW, 0, none⟩)) t57 t58 t59 t60 t61 t62 t63 t64 t65 t66 t67 t68 t69 s0 s3 s4 s5 s6 s7 s8 s9 s10 s12 s14 s15 s16 s17 s19 s20 s21 s22 s23 s24 s25 s26 s27 s28 s29 s30 s31 s32 s33 s34 s35 s36 s37 s38 s39 s40 s41 s42 s43 s44 s45 s46 s47 s48 s49 s50 s51 s52 s53 s54 s55 s56 s70 s71 s72 s73 s74 s75 s76 s77 s78 s79 s80) wx) :
    (Code.region 16 (regIn 16 Tryz.f32) true).wp Tryz.prog Q { tmps := #[s0, .slice af l.length cf, .slice at' l.length ct, s3, s4, s5, s6, s7, s8, s9, s10, .pointer (some ⟨XP, 0, none⟩), s12, .pointer (some ⟨BI, 0, none⟩), s14, s15, s16, s17, s18, s19, s20, s21, s22, s23, s24, s25, s26, s27, s28, s29, s30, s31, s32, s33, s34, s35, s36, s37, s38, s39, s40, s41, s42, s43, s44, s45, s46, s47, s48, s49, s50, s51, s52, s53, s54, s55, s56, s57, s58, s59, s60, s61, s62, s63, s64, s65, s66, s67, s68, s69, s70, s71, s72, s73, s74, s75, s76, s77, s78, s79, s80], defers := [] } wr := by
  cases x with
  | true => exact ch16t hp BX MP he ho hf ht sf st hx hy (fun t57 t58 t59 t60 t61 t62 t63 t64 t65 t66 t67 t68 t69 BW wx a b c => h' t57 t58 t59 t60 t61 t62 t63 t64 t65 t66 t67 t68 t69 BW wx a b (by simpa using c))
  | false => exact ch16f hp BX MP he ho hf ht sf st hx hy (fun t57 t58 t59 t60 t61 t62 t63 t64 t65 t66 t67 t68 t69 BW wx a b c => h' t57 t58 t59 t60 t61 t62 t63 t64 t65 t66 t67 t68 t69 BW wx a b (by simpa using c))
end Go.Proofs.YtenehghpmnajpaaGreatDoor

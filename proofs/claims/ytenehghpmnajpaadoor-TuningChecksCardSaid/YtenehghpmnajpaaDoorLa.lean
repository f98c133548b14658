/- Contract of the refuter's branch. Contract of tuning.Refute. (several texts in one, by wip/tools/merge.py) -/
import Derived.Test.YtenehghpmnajpaaDoorKz
import Derived.Test.YtenehghpmnajpaaDoorKt
import Derived.Test.YtenehghpmnajpaaDoorKw
/-! Contract of the refuter's branch. -/
set_option linter.unusedVariables false
set_option linter.unusedSimpArgs false
namespace Go.Proofs.YtenehghpmnajpaaDoor
open Go.RowKit
open Classical

theorem infoBrn : (Tryd.prog.info? 76).map (fun i => (i.zero, i.size, i.bytes)) = some (some (.agg #[.int .i64 0, .int .i64 0, .slice none 0 0]), 3, 40) := by kernel_rfl
/-- Branches were added. -/
def AddsB (l : List Clk) (ms : List Lmt) (w0 : World) (RB : Nat) (v1 v2 : Value) (xs : List (Brn × Option Addr × Nat)) (R : List Brn) (w : World) (e : Ending) (w' : World) : Prop :=
  e = .returned (.int .i64 (xs.length : Int)) ∧ ∃ A cap ys, RefAt w0.heap.size w' RB v1 v2 A cap (xs ++ ys) ∧ ys.map (·.1) = R ∧ (∀ b ∈ ys, ∀ B, b.1.next ≠ [] → b.2.1 = some ⟨B, 0, none⟩ → w.heap.size ≤ B) ∧ Gr w0 w' ∧ KeepI w w'
theorem kidsGo_mono (f : List Int → Nat → List Brn) (p : List Int) (nx a : Nat) {i j : Nat} (h : i ≤ j) : (kidsGo f p nx a i).1.length ≤ (kidsGo f p nx a j).1.length := by
  induction j with
  | zero => have : i = 0 := by omega
            subst this; exact Nat.le_refl _
  | succ j ih =>
    by_cases e : i = j + 1
    · subst e; exact Nat.le_refl _
    · have := ih (by omega)
      simp only [kidsGo, List.length_append]; omega
theorem one_brn (x y : Int) : ∀ u ∈ ([.int .i64 x, .int .i64 y, .slice none 0 0] : List Value), u.oneCell' = true := by
  intro u hu
  simp only [List.mem_cons, List.not_mem_nil, or_false] at hu
  rcases hu with rfl | rfl | rfl <;> rfl
/-- One more branch, without a list. -/
theorem RefAt.more {base : Nat} {w W3 W4 : World} {RB : Nat} {v1 v2 : Value} {A A4 : Option Addr} {cap c4 : Nat} {xs : List (Brn × Option Addr × Nat)} (x y : Int) (h : RefAt base W3 RB v1 v2 A cap xs)
    (hown : W4.ownsRow base 76 3 (.slice A4 (xs.length + 1) c4) (xs.length + 1) (xs.flatMap encN ++ [.int .i64 x, .int .i64 y, .slice none 0 0])) (hgrow : W3.grownBy W4 (Value.slice A xs.length cap).ownBlock) (hw : w.heap.size ≤ W3.heap.size) (hk : KeepI w W3) :
    RefAt base (W4.setCell ⟨RB, 2, none⟩ (.slice A4 (xs.length + 1) c4)) RB v1 v2 A4 c4 (xs ++ [(⟨x, y, []⟩, none, 0)]) ∧ KeepI w (W4.setCell ⟨RB, 2, none⟩ (.slice A4 (xs.length + 1) c4)) := by
  have hne : ∀ B vs, RowS W3 B 3 vs → some B ≠ (Value.slice A xs.length cap).ownBlock := fun B vs r => owns_apart h.own r (by decide)
  have r4 := h.row.grown hgrow (owns_apart h.own h.row.s (by decide))
  have k4 : KeepI W3 W4 := (KeepI.refl W3).other hgrow hne
  have r5 := r4.set 2 (.slice A4 (xs.length + 1) c4)
  refine ⟨⟨?_, ?_, ?_, h.low⟩, (hk.trans k4).setc r4.s (by decide)⟩
  · simpa using r5
  · have := owns_set hown (B := RB) (o := 2) (x := .slice A4 (xs.length + 1) c4) r4.s (by decide)
    simpa [encN] using this
  · intro b hb
    rcases List.mem_append.1 hb with hb | hb
    · have := (h.nxt b hb)
      exact ⟨((k4.setc r4.s (by decide)).own1 this.1), this.2⟩
    · have : b = (⟨x, y, []⟩, none, 0) := by simpa using hb
      subst this
      exact ⟨.inl rfl, Nat.le_refl _⟩
/-- The list of a branch is stored. -/
theorem refAt_fill {base : Nat} {w : World} {RB : Nat} {v1 v2 : Value} {g cap : Nat} {xs ys : List (Brn × Option Addr × Nat)} {m : Brn × Option Addr × Nat} (h : RefAt base w RB v1 v2 (some ⟨g, 0, none⟩) cap (xs ++ m :: ys)) (nx : List Int) (a : Option Addr) (c : Nat) (hn : Own1 base w 3 (nums nx) a) (hc : nx.length ≤ c) :
    RefAt base (w.setCell ⟨g, xs.length * 3 + 2, none⟩ (.slice a nx.length c)) RB v1 v2 (some ⟨g, 0, none⟩) cap (xs ++ (⟨m.1.limit, m.1.clock, nx⟩, a, c) :: ys) ∧ KeepI w (w.setCell ⟨g, xs.length * 3 + 2, none⟩ (.slice a nx.length c)) := by
  obtain ⟨_, _, e, _, o1⟩ := owns_ownN h.own
  cases e
  rcases o1 with o1 | ⟨B, e1, hB, o1⟩
  · simp [encN] at o1
  · cases e1
    have k := (KeepI.refl w).setc (o := xs.length * 3 + 2) (v := .slice a nx.length c) o1 (by decide)
    have p := owns_put h.own (j := xs.length * 3 + 2) (by simp; omega) (.slice a nx.length c)
    rw [encN_set (xs ++ m :: ys) xs.length (by simp) nx a c] at p
    have es : (xs ++ m :: ys).set xs.length (⟨((xs ++ m :: ys)[xs.length]'(by simp)).1.limit, ((xs ++ m :: ys)[xs.length]'(by simp)).1.clock, nx⟩, a, c) = xs ++ (⟨m.1.limit, m.1.clock, nx⟩, a, c) :: ys := by simp
    rw [es] at p
    have el : (xs ++ m :: ys).length = (xs ++ ((⟨m.1.limit, m.1.clock, nx⟩, a, c) : Brn × Option Addr × Nat) :: ys).length := by simp
    refine ⟨⟨?_, ?_, ?_, h.low⟩, k⟩
    · rw [← el]; exact h.row.oth (RowS.apart o1 h.row.s (by decide))
    · rw [← el]; exact p
    · intro b hb
      rcases List.mem_append.1 hb with hb | hb
      · exact ⟨k.own1 (h.nxt b (List.mem_append_left _ hb)).1, (h.nxt b (List.mem_append_left _ hb)).2⟩
      · rcases List.mem_cons.1 hb with e | hb
        · subst e; exact ⟨k.own1 hn, hc⟩
        · have hm := List.mem_append_right xs (List.mem_cons_of_mem m hb)
          exact ⟨k.own1 (h.nxt b hm).1, (h.nxt b hm).2⟩
set_option maxRecDepth 100000 in
set_option maxHeartbeats 4000000 in
theorem branch_any (l : List Clk) (ms : List Lmt) (w0 : World) (al am ab : Option Addr) (cl cm cb RB : Nat) (henv : Env w0 l ms al am) (hb0 : SlOf 5 RBnd w0 ab (allB l ms)) (h1 : 1 ≤ l.length) :
    ∀ g p, PrtOk l p → opens p < g → NoExt l ms p → ∀ w A cap xs SB cs, Gr w0 w → RefAt w0.heap.size w RB (.slice al l.length cl) (.slice ab (allB l ms).length cb) A cap xs → RowS w SB 3 (nums p) → xs.length + (refB l ms g p xs.length).length ≤ 100000 →
      Calls Tryd.prog 74 #[.pointer (some ⟨RB, 0, none⟩), .slice (some ⟨SB, 0, none⟩) l.length cs] w (AddsB l ms w0 RB (.slice al l.length cl) (.slice ab (allB l ms).length cb) xs (refB l ms g p xs.length) w) := by
  obtain ⟨nb, _, _, _⟩ := cchk_zero henv.chk
  have hl := small_len nb
  have hml := henv.lims.1
  have HE := Lib.hid henv
  have HB0 := Lib.hid hb0
  have BL : Hid ((allB l ms).length ≤ 48) := Lib.hid (by have := allB_len l ms; omega)
  have BO := Lib.hid (allB_ok (l := l) (ms := ms) henv.lims)
  have NB := Lib.hid nb
  clear henv hb0 nb
  intro g
  induction g with
  | zero => intro p _ ho; omega
  | succ g ih =>
    intro p hp ho hn w A cap xs SB cs hg hr hs hsz
    have IH := Lib.hid ih
    have HP := Lib.hid hp
    have HO := Lib.hid ho
    have HN := Lib.hid hn
    have HG := Lib.hid hg
    have HR := Lib.hid hr
    have HS := Lib.hid hs
    have SZ := Lib.hid hsz
    obtain ⟨i0, hi, hz0, hz1, hz2⟩ := info_parts infoBrn
    obtain ⟨k0, hki, ky0, ky1, ky2⟩ := info_parts infoInt
    have lp : p.length = l.length := hp.1
    have wp := hp.wide HE.out.chk
    have JD : Hid (∀ W, Gr w W → Calls Tryd.prog 109 #[.slice al l.length cl, .slice ab (allB l ms).length cb, .slice (some ⟨SB, 0, none⟩) l.length cs] W (Grows W (.tuple #[.int .i64 (judge l ms p).1, .int .i64 (judge l ms p).2]))) := Lib.hid fun W hW => by
      have := judge_any l (allB l ms) p al ab (some ⟨SB, 0, none⟩) cl cb cs W HE.out.chk hp (clks_gr HE.out.clks (hg.trans hW)) (HB0.out.gr RBnd.mono (hg.trans hW)) ((hs.gr hW).slI wp) BO.out BL.out
      rwa [lp] at this
    have JI := judge_is HE.out.chk HE.out.lims hp hn
    obtain ⟨jl, jn, ej⟩ : ∃ jl jn, judge l ms p = (jl, jn) := ⟨_, _, rfl⟩
    rw [ej] at JD
    simp only at JD
    have r0 := hr.row.cell 0 (by simp)
    have r1 := hr.row.cell 1 (by simp)
    have r2 := hr.row.cell 2 (by simp)
    have rh := hr.row.has
    simp only [List.getElem_cons_zero, List.getElem_cons_succ] at r0 r1 r2
    have xl : xs.length ≤ 100000 := by omega
    rcases JI with ⟨b, _, _, e, hx0⟩ | ⟨f, e, hf, hof⟩
    · rw [e] at ej
      injection ej with e1 e2
      subst e1 e2
      have RBe : Hid (refB l ms (g + 1) p xs.length = [⟨b.index, 0, []⟩]) := Lib.hid (by rw [refB, e, if_pos hx0])
      have bx : decide (0 ≤ b.index) = true := decide_eq_true hx0
      rw [RBe.out]
      clear ih hp ho hn hg hr hs hsz wp lp IH HN HO SZ e hx0 RBe
      go_enter Tryd.func74, Tryd.ntmps74
      go_wp2_with fail
      refine wp_region_grows (by kernel_rfl) (by kernel_rfl) ?_
      repeat (go_big_quiet_step (first | (go_at_call 109; exact calls_grows (JD.out _ ((Gr.refl _).xt _ _)))))
      refine wpQuiet_nil ?_
      rintro _ ⟨⟨O, d⟩, rfl⟩
      obtain ⟨W2, hW2⟩ : ∃ W2 : World, Hid (W2 = xt w O d) := ⟨_, Lib.hid rfl⟩
      rw [← hW2.out]
      have G2 : Hid (Gr w W2) := Lib.hid (by rw [hW2.out]; exact (Gr.refl _).xt O d)
      have p2 := cell_gr G2.out r2
      have p0 := cell_gr G2.out r0
      have ph := has_of_cell p2
      clear r0 r1 r2 rh hW2
      obtain ⟨W3, hW3⟩ : ∃ W3 : World, Hid (W3 = W2.alloc (.cells #[.int .i64 b.index, .int .i64 0, .slice none 0 0] 76)) := ⟨_, Lib.hid rfl⟩
      obtain ⟨N3, hN3⟩ : ∃ N3 : Nat, Hid (W2.heap.size = N3) := ⟨_, Lib.hid rfl⟩
      have g3 : Hid (Gr w W3) := Lib.hid (by rw [hW3.out]; exact G2.out.alloc _)
      have R3 := Lib.hid (HR.out.gr g3.out)
      have CC : Hid (∀ j u, ([.int .i64 b.index, .int .i64 0, .slice none 0 0] : List Value)[j]? = some u → W3.cell? ((⟨N3, 0, none⟩ : Addr).add j) = some u) := Lib.hid (by
        have := row_cells (Row.new W2 #[.int .i64 b.index, .int .i64 0, .slice none 0 0] 76)
        rw [← hW3.out, hN3.out] at this
        exact this)
      have base := Lib.hid (HG.out.trans g3.out).size
      go_wp2_with (first
        | (at_builtin; rw [← hW3.out, hN3.out]; refine wpList_append_gets _ rfl _ _ 69 rfl w0.heap.size 76 i0 (.agg #[.int .i64 0, .int .i64 0, .slice none 0 0]) 3 40 Tryd.underlying69 hi hz0 hz1 hz2 rfl (by decide) (.slice A xs.length cap) xs.length (xs.flatMap encN) rfl R3.out.own (some ⟨N3, 0, none⟩) 1 1 [.int .i64 b.index, .int .i64 0, .slice none 0 0] rfl ⟨rfl, fun _ => ⟨_, rfl, CC.out⟩⟩ (one_brn _ _) (by unfold maxLen; omega) (by omega) base.out ?_; intro v' W4 hown hgrow _; obtain ⟨a4, c4, rfl⟩ := owns_slice hown; have M4 := Lib.hid (R3.out.more (w := w) b.index 0 hown hgrow g3.out.size (.of_gr g3.out)); have G4 : Hid (Gr w0 W4) := Lib.hid ((HG.out.trans g3.out).grown hgrow (fun k e => (R3.out.own.lt k e).1)); have r4 := R3.out.row.grown hgrow (owns_apart R3.out.own R3.out.row.s (by decide)); have q2 := r4.cell 2 (by simp); have qf := r4.free 2; have qh := r4.has; clear hown hgrow r4 hW3)
        | fail)
      go_ret
      exact ⟨rfl, a4, c4, [(⟨b.index, 0, []⟩, none, 0)], M4.out.1, rfl, (fun z hz B q _ => absurd (by rw [List.mem_singleton.1 hz]) q), G4.out.setc HR.out.low, M4.out.2⟩
    · rw [e] at ej
      injection ej with e1 e2
      subst e1 e2
      obtain ⟨bc, oc, eal, ⟨d0, _⟩, ⟨ap, cp, d1, _⟩, ⟨ac, cc, d2, _, d2f, _⟩, _⟩ := clks_gr HE.out.clks hg f hf
      subst eal
      have kf : (kOf l f).toNat = l[f].choices.length := by rw [kOf_at hf]; simp
      obtain ⟨n, hnn⟩ : ∃ n, l[f].choices.length = n := ⟨_, rfl⟩
      rw [hnn] at d2 d2f kf
      obtain ⟨F, hF⟩ : ∃ F, refB l ms g = F := ⟨_, rfl⟩
      have RBe : Hid (refB l ms (g + 1) p xs.length = ⟨-1, f, (kidsGo F p f (xs.length + 1) n).2⟩ :: (kidsGo F p f (xs.length + 1) n).1) := Lib.hid (by
        rw [refB, e, if_neg (by omega), hF]
        simp only [Int.toNat_natCast, kf])
      have hfp : f < p.length := by rw [lp]; exact hf
      have SZ2 : Hid (∀ k, k < n → xs.length + 1 + (kidsGo F p f (xs.length + 1) k).1.length + (F (p.set f k) (xs.length + 1 + (kidsGo F p f (xs.length + 1) k).1.length)).length ≤ 100000) := Lib.hid (fun k hk => by
        have q := kidsGo_mono F p f (xs.length + 1) (show k + 1 ≤ n by omega)
        have q2 := hsz
        rw [RBe.out, List.length_cons] at q2
        simp only [kidsGo, List.length_append] at q
        omega)
      have n8 : n ≤ 8 := by rw [← hnn]; exact (small_at NB.out hf).2
      have IHk : Hid (∀ (k : Nat), k < n → ∀ (w' : World) (A : Option Addr) (cap : Nat) (ys : List (Brn × Option Addr × Nat)) (SB' cs' : Nat), Gr w0 w' → RefAt w0.heap.size w' RB (.slice (some ⟨bc, oc, none⟩) l.length cl) (.slice ab (allB l ms).length cb) A cap (xs ++ (⟨-1, f, []⟩, none, 0) :: ys) → ys.length = (kidsGo F p f (xs.length + 1) k).1.length → RowS w' SB' 3 (nums (p.set f k)) →
          Calls Tryd.prog 74 #[.pointer (some ⟨RB, 0, none⟩), .slice (some ⟨SB', 0, none⟩) l.length cs'] w' (AddsB l ms w0 RB (.slice (some ⟨bc, oc, none⟩) l.length cl) (.slice ab (allB l ms).length cb) (xs ++ (⟨-1, f, []⟩, none, 0) :: ys) (F (p.set f k) (xs.length + 1 + (kidsGo F p f (xs.length + 1) k).1.length)) w')) := Lib.hid (fun k hk w' A cap ys SB' cs' hg' hr' hy hs' => by
        have hlen : (xs ++ (⟨-1, f, []⟩, none, 0) :: ys).length = xs.length + 1 + (kidsGo F p f (xs.length + 1) k).1.length := by rw [List.length_append, List.length_cons, hy]; omega
        have ho2 := opens_set (x := (k : Int)) hfp hof (by omega)
        have := ih (p.set f k) (hp.set hf (by omega) (by rw [kOf_at hf, hnn]; omega)) (by omega) (hn.set hfp hof) w' A cap (xs ++ (⟨-1, f, []⟩, none, 0) :: ys) SB' cs' hg' hr' hs' (by rw [hF, hlen]; exact SZ2.out k hk)
        rw [hF, hlen] at this
        exact this)
      rw [RBe.out]
      have BW : Hid (∀ b ∈ xs, ∀ B, b.1.next ≠ [] → b.2.1 = some ⟨B, 0, none⟩ → B < w.heap.size) := Lib.hid (fun b hb B q e => (hr.nxt.below b hb B q e).2)
      have HFL := Lib.hid hf
      have CL : Hid (∀ W, Gr w0 W → W.cell? ⟨bc, oc + f * 5 + 2, none⟩ = some (.slice ac n cc)) := Lib.hid (fun W hW => by
        obtain ⟨b', o', e', _, _, ⟨ac', cc', q, _⟩, _⟩ := clks_gr HE.out.clks hW f hf
        obtain ⟨b'', o'', e'', _, _, ⟨ac'', cc'', q', _⟩, _⟩ := HE.out.clks f hf
        cases e'; cases e''
        have q2 := cell_gr hg q'
        rw [hnn] at q2
        rw [q2] at d2
        have q3 := cell_gr hW q'
        rw [hnn] at q3
        rw [q3]; exact d2)
      have LP := Lib.hid lp
      have WP := Lib.hid wp
      have f2 : (f : Int) < l.length := by omega
      have nb1 : ¬ RB = bc := by have := HR.out.low; have := has_of_cell (HE.out.clks f hf).choose_spec.choose_spec.2.1.1; unfold Has at this; obtain ⟨b', o', e', ⟨q, _⟩, _⟩ := HE.out.clks f hf; cases e'; have q2 := has_of_cell q; unfold Has at q2; omega
      have nb2 : ¬ bc = RB := fun e => nb1 e.symm
      unfold Fit at d2f
      clear ih hp ho hn hg hr hs hsz wp lp IH HN HO SZ SZ2 e RBe hF d0 d1 d2 kf hnn HP
      go_enter Tryd.func74, Tryd.ntmps74
      go_wp2_with fail
      refine wp_region_grows (by kernel_rfl) (by kernel_rfl) ?_
      repeat (go_big_quiet_step (first | (go_at_call 109; exact calls_grows (JD.out _ ((Gr.refl _).xt _ _)))))
      refine wpQuiet_nil ?_
      rintro _ ⟨⟨O, d⟩, rfl⟩
      obtain ⟨W2, hW2⟩ : ∃ W2 : World, Hid (W2 = xt w O d) := ⟨_, Lib.hid rfl⟩
      rw [← hW2.out]
      have G2 : Hid (Gr w W2) := Lib.hid (by rw [hW2.out]; exact (Gr.refl _).xt O d)
      have p2 := cell_gr G2.out r2
      have p0 := cell_gr G2.out r0
      have ph := has_of_cell p2
      clear r0 r1 r2 rh hW2
      obtain ⟨W3, hW3⟩ : ∃ W3 : World, Hid (W3 = W2.alloc (.cells #[.int .i64 (-1), .int .i64 (f : Int), .slice none 0 0] 76)) := ⟨_, Lib.hid rfl⟩
      obtain ⟨N3, hN3⟩ : ∃ N3 : Nat, Hid (W2.heap.size = N3) := ⟨_, Lib.hid rfl⟩
      have g3 : Hid (Gr w W3) := Lib.hid (by rw [hW3.out]; exact G2.out.alloc _)
      have R3 := Lib.hid (HR.out.gr g3.out)
      have CC : Hid (∀ j u, ([.int .i64 (-1), .int .i64 (f : Int), .slice none 0 0] : List Value)[j]? = some u → W3.cell? ((⟨N3, 0, none⟩ : Addr).add j) = some u) := Lib.hid (by
        have := row_cells (Row.new W2 #[.int .i64 (-1), .int .i64 (f : Int), .slice none 0 0] 76)
        rw [← hW3.out, hN3.out] at this
        exact this)
      have base := Lib.hid (HG.out.trans g3.out).size
      go_wp2_with (first
        | (at_builtin; rw [← hW3.out, hN3.out]; refine wpList_append_gets _ rfl _ _ 69 rfl w0.heap.size 76 i0 (.agg #[.int .i64 0, .int .i64 0, .slice none 0 0]) 3 40 Tryd.underlying69 hi hz0 hz1 hz2 rfl (by decide) (.slice A xs.length cap) xs.length (xs.flatMap encN) rfl R3.out.own (some ⟨N3, 0, none⟩) 1 1 [.int .i64 (-1), .int .i64 (f : Int), .slice none 0 0] rfl ⟨rfl, fun _ => ⟨_, rfl, CC.out⟩⟩ (one_brn _ _) (by unfold maxLen; omega) (by omega) base.out ?_; intro v' W4 hown hgrow _; obtain ⟨a4, c4, rfl⟩ := owns_slice hown; have M4 := Lib.hid (R3.out.more (w := w) (-1) f hown hgrow g3.out.size (.of_gr g3.out)); have G4 : Hid (Gr w0 W4) := Lib.hid ((HG.out.trans g3.out).grown hgrow (fun k e => (R3.out.own.lt k e).1)); have r4 := R3.out.row.grown hgrow (owns_apart R3.out.own R3.out.row.s (by decide)); have q2 := r4.cell 2 (by simp); have qf := r4.free 2; have qh := r4.has; have q0 := r4.cell 0 (by simp); have t0 := CL.out W4 G4.out; have th := has_of_cell t0; clear r4 hgrow hown hW3; simp only [List.getElem_cons_zero, List.getElem_cons_succ] at q0 q2)
        | fail)
      obtain ⟨W5, hW5⟩ : ∃ W5 : World, Hid (W5 = W4.setCell ⟨RB, 2, none⟩ (.slice a4 (xs.length + 1) c4)) := ⟨_, Lib.hid rfl⟩
      rw [← hW5.out]
      have R5 : Hid (RefAt w0.heap.size W5 RB (.slice (some ⟨bc, oc, none⟩) l.length cl) (.slice ab (allB l ms).length cb) a4 c4 (xs ++ [(⟨-1, f, []⟩, none, 0)])) := Lib.hid (by rw [hW5.out]; exact M4.out.1)
      have K5 : Hid (KeepI w W5) := Lib.hid (by rw [hW5.out]; exact M4.out.2)
      have G5 : Hid (Gr w0 W5) := Lib.hid (by rw [hW5.out]; exact G4.out.setc HR.out.low)
      clear hW5 M4 G4 q0 q2 qf qh t0 th p0 p2 ph R3 CC base g3 hN3
      obtain ⟨MK, hMK⟩ : ∃ MK : Brn × Option Addr × Nat, Hid (MK = (⟨-1, f, []⟩, none, 0)) := ⟨_, Lib.hid rfl⟩
      rw [← hMK.out] at R5 IHk
      go_loopw [8, 63] (fun s8 s63 wr => ∃ (k : Nat) (a : Option Addr) (c : Nat) (A : Option Addr) (cap : Nat) (ys : List (Brn × Option Addr × Nat)), k ≤ n ∧ s63 = .int .i64 (k : Int) ∧ s8 = .slice a k c ∧ wr.ownsRow w.heap.size 3 1 (.slice a k c) k (nums (kidsGo F p f (xs.length + 1) k).2) ∧ RefAt w0.heap.size wr RB (.slice (some ⟨bc, oc, none⟩) l.length cl) (.slice ab (allB l ms).length cb) A cap (xs ++ MK :: ys) ∧ ys.map (·.1) = (kidsGo F p f (xs.length + 1) k).1 ∧ NotIn (.slice a k c) ys ∧ (∀ b ∈ ys, ∀ B, b.1.next ≠ [] → b.2.1 = some ⟨B, 0, none⟩ → w.heap.size ≤ B) ∧ Gr w0 wr ∧ KeepI w wr) (fun _ s63 _ => n - (intOf s63).toNat)
      case atStart => exact ⟨0, none, 0, a4, c4, [], Nat.zero_le _, rfl, rfl, World.ownsRow_nil _ _ _ _, R5.out, rfl, (fun b hb => by cases hb), (fun b hb => by cases hb), G5.out, K5.out⟩
      case round =>
        obtain ⟨k, a, c, A2, cap2, ys, hk, rfl, rfl, ho, hr, hy, hni, hfr, hg, hki2⟩ := hrel
        have OW := Lib.hid ho
        have RR := Lib.hid hr
        have YS := Lib.hid hy
        have NI := Lib.hid hni
        have FR := Lib.hid hfr
        have GG := Lib.hid hg
        have KK := Lib.hid hki2
        obtain ⟨wo, hwo⟩ : ∃ wo : World, wo = wr := ⟨_, rfl⟩
        have yl : ys.length = (kidsGo F p f (xs.length + 1) k).1.length := by rw [← hy, List.length_map]
        have YL := Lib.hid yl
        by_cases hlt : k < n
        · have k2 : (k : Int) < n := by omega
          have CLN := Lib.hid (clone_any p (some ⟨SB, 0, none⟩) cs wr ((KK.out.rowS HS.out).slI WP.out) (by rw [LP.out]; omega) (by rw [LP.out]; exact hl))
          rw [LP.out] at CLN
          clear ho hr hy hni hfr hg hki2 hwo yl
          go_wp2_with fail
          refine CLN.out.mono ?_
          rintro e w7 ⟨B7, c7, rfl, hrow7, hB7, hg7⟩
          have R7 := Lib.hid hrow7
          have cf := hrow7.iat f hfp
          have ff := hrow7.free f
          have fh := hrow7.has
          have G7 := Lib.hid hg7
          have B7' := Lib.hid hB7
          clear hrow7 hg7 hB7 CLN
          go_wp2_with fail
          obtain ⟨W8, hW8⟩ : ∃ W8 : World, Hid (W8 = w7.setCell ⟨B7, f, none⟩ (.int .i64 (k : Int))) := ⟨_, Lib.hid rfl⟩
          rw [← hW8.out]
          have R8 : Hid (RowS W8 B7 3 (nums (p.set f (k : Int)))) := Lib.hid (by rw [hW8.out]; exact R7.out.iset f hfp k)
          have g8 : Hid (Gr wr W8) := Lib.hid (by rw [hW8.out]; exact G7.out.setc B7'.out)
          have OW8 := Lib.hid (Gr.owns OW.out g8.out)
          have GG8 := Lib.hid (GG.out.trans g8.out)
          have KK8 := Lib.hid (KK.out.gr g8.out)
          have RR8 := Lib.hid (RR.out.gr g8.out)
          have wsz : Hid (wr.heap.size ≤ W8.heap.size) := Lib.hid g8.out.size
          have CB := Lib.hid (IHk.out k hlt W8 A2 cap2 ys B7 c7 GG8.out RR8.out YL.out R8.out)
          clear hW8 R7 cf ff fh G7 B7' g8
          refine CB.out.mono ?_
          rintro e w9 ⟨rfl, A9, cap9, zs, hr9, hz9, hf9, hg9, hk9⟩
          have RR9 := Lib.hid hr9
          have ZS := Lib.hid hz9
          have GG9 := Lib.hid hg9
          have KK9 := Lib.hid (KK8.out.trans hk9)
          have OW9 := Lib.hid (hk9.owns OW8.out)
          have al9 : (xs ++ MK :: ys).length = xs.length + 1 + (kidsGo F p f (xs.length + 1) k).1.length := by rw [List.length_append, List.length_cons, YL.out]; omega
          have NI9 : Hid (NotIn (.slice a k c) (xs ++ MK :: ys ++ zs)) := Lib.hid (by
            intro z hz B hq1 hq2 hq3
            have hB := OW.out.lt B hq3.symm
            rcases List.mem_append.1 hz with hz | hz
            · rcases List.mem_append.1 hz with hz | hz
              · have := BW.out z hz B hq1 hq2; omega
              · rcases List.mem_cons.1 hz with hz | hz
                · subst hz; rw [hMK.out] at hq1; exact hq1 rfl
                · exact NI.out z hz B hq1 hq2 hq3
            · have := hf9 z hz B hq1 hq2; have := wsz.out; omega)
          have FR9 : Hid (∀ b ∈ ys ++ zs, ∀ B, b.1.next ≠ [] → b.2.1 = some ⟨B, 0, none⟩ → w.heap.size ≤ B) := Lib.hid (fun b hb B q1 q2 => by
            rcases List.mem_append.1 hb with hb | hb
            · exact FR.out b hb B q1 q2
            · have := hf9 b hb B q1 q2; have := wsz.out; have := KK.out.1; omega)
          rw [al9]
          obtain ⟨at9, hat9⟩ : ∃ at9 : Nat, Hid (xs.length + 1 + (kidsGo F p f (xs.length + 1) k).1.length = at9) := ⟨_, Lib.hid rfl⟩
          rw [hat9.out]
          obtain ⟨N9, hN9⟩ : ∃ N9 : Nat, Hid (w9.heap.size = N9) := ⟨_, Lib.hid rfl⟩
          obtain ⟨W10, hW10⟩ : ∃ W10 : World, Hid (W10 = w9.alloc (.cells #[.int .i64 (at9 : Int)] 3)) := ⟨_, Lib.hid rfl⟩
          have g10 : Hid (Gr w9 W10) := Lib.hid (by rw [hW10.out]; exact (Gr.refl _).alloc _)
          have RR10 := Lib.hid (RR9.out.gr g10.out)
          have OW10 := Lib.hid (Gr.owns OW9.out g10.out)
          have GG10 := Lib.hid (GG9.out.trans g10.out)
          have KK10 := Lib.hid (KK9.out.gr g10.out)
          have CC : Hid (∀ j u, ([.int .i64 (at9 : Int)] : List Value)[j]? = some u → W10.cell? ((⟨N9, 0, none⟩ : Addr).add j) = some u) := Lib.hid (by
            have := row_cells (Row.new w9 #[.int .i64 (at9 : Int)] 3)
            rw [← hW10.out, hN9.out] at this
            exact this)
          have one : Hid (∀ u ∈ ([.int .i64 (at9 : Int)] : List Value), u.oneCell' = true) := Lib.hid (fun u hu => by rw [List.mem_singleton.1 hu]; rfl)
          have base := Lib.hid KK10.out.1
          have kl := Lib.hid (kidsGo_len F p f (xs.length + 1) k)
          clear hr9 hz9 hf9 hg9 hk9 al9 OW OW8 OW9 RR RR8 RR9 GG GG8 GG9 KK KK8 KK9 CB
          go_wp2_with (first
            | (at_builtin; rw [← hW10.out, hN9.out]; refine wpList_append_gets _ rfl _ _ 22 rfl w.heap.size 3 k0 (.int .i64 0) 1 8 Tryd.underlying22 hki ky0 ky1 ky2 rfl (by decide) (.slice a k c) k (nums (kidsGo F p f (xs.length + 1) k).2) rfl OW10.out (some ⟨N9, 0, none⟩) 1 1 [.int .i64 (at9 : Int)] rfl ⟨rfl, fun _ => ⟨_, rfl, CC.out⟩⟩ one.out (by unfold maxLen; omega) (by omega) base.out ?_; intro v' W11 hown hgrow hblk; obtain ⟨a11, c11, rfl⟩ := owns_slice hown; have O11 := Lib.hid hown; have HG11 := Lib.hid hgrow; have HB11 := Lib.hid hblk; clear hown hgrow hblk)
            | fail)
          go_roundw
          case rel =>
            refine ⟨k + 1, a11, c11, A9, cap9, ys ++ zs, by omega, by go_num, rfl, ?_, ?_, ?_, ?_, FR9.out, GG10.out.grown HG11.out (fun b e => Nat.le_trans (by have := HG.out.size; omega) (OW10.out.lt b e).1), KK10.out.mine HG11.out (fun B e => (OW10.out.lt B e).1)⟩
            · have := O11.out
              simp only [kidsGo]
              rw [hat9.out]
              simpa [nums] using this
            · have := RR10.out.nums OW10.out HG11.out NI9.out
              rw [List.append_assoc, List.cons_append] at this
              exact this
            · simp only [kidsGo]
              rw [List.map_append, YS.out, ZS.out]
            · intro z hz B hq1 hq2 hq3
              have hm : z ∈ xs ++ MK :: ys ++ zs := by
                rw [List.append_assoc, List.cons_append]
                exact List.mem_append_right _ (List.mem_cons_of_mem _ hz)
              rcases HB11.out with q | q
              · exact NI9.out z hm B hq1 hq2 (by rw [hq3, q])
              · have := RR10.out.nxt.below z hm B hq1 hq2
                rw [q] at hq3
                injection hq3 with hq3
                omega
          case measure => simp [intOf]; omega
        · have hk' : k = n := by omega
          subst hk'
          clear hk hlt yl
          have nl : (xs ++ MK :: ys).length = xs.length + (ys.length + 1) := by simp
          obtain ⟨g, gc, e1, ec, gb, hgc⟩ := owns_cell hr.own (by rw [nl]; omega)
          cases e1
          have q2 := hr.row.cell 2 (by simp)
          have qh := hr.row.has
          simp only [List.getElem_cons_succ, List.getElem_cons_zero] at q2
          rw [nl] at q2 ec
          have gz0 := hgc (xs.length * 3 + 2) (by rw [nl]; omega)
          have gz : wr.cell? ⟨g, xs.length * 3 + 2, none⟩ = some (.slice none 0 0) := by
            rw [gz0, flat_at encN 3 (fun _ => rfl) (xs ++ MK :: ys) xs.length 2 (by rw [nl]; omega) (by omega)]
            have : (xs ++ MK :: ys)[xs.length]'(by rw [nl]; omega) = MK := by simp
            rw [this, hMK.out]; rfl
          have gf := hr.own.frozenAt (xs.length * 3 + 2)
          have gh := has_of_cell gz
          have a2 : (xs.length : Int) < ((xs.length + (ys.length + 1) : Nat) : Int) := by omega
          have kl := Lib.hid (kidsGo_len F p f (xs.length + 1) k)
          have o1 := owns_own1_low ho (Nat.le_trans HG.out.size KK.out.1 |> fun _ => HG.out.size)
          have FL := Lib.hid (refAt_fill RR.out (kidsGo F p f (xs.length + 1) k).2 a c o1 (by
            obtain ⟨_, _, e, hc, _⟩ := owns_own1 ho
            cases e
            rw [kl.out]; exact hc))
          rw [kl.out] at FL
          have gb0 : Hid (w0.heap.size ≤ g) := Lib.hid gb
          clear hgc gz0 ho hr hy hni hfr hg hki2 o1
          go_wp2_with fail
          go_ret
          have hf := FL.out
          rw [hMK.out] at hf
          refine ⟨rfl, _, cap2, (⟨-1, f, (kidsGo F p f (xs.length + 1) k).2⟩, a, c) :: ys, hf.1, by rw [List.map_cons, YS.out], ?_, GG.out.setc gb0.out, KK.out.trans hf.2⟩
          intro z hz B hq1 hq2
          rcases List.mem_cons.1 hz with e | hz
          · subst e
            simp only at hq2
            exact (OW.out.lt B (by rw [hq2]; rfl)).1
          · exact FR.out z hz B hq1 hq2
end Go.Proofs.YtenehghpmnajpaaDoor

/-! Contract of tuning.Refute. -/
set_option linter.unusedVariables false
set_option linter.unusedSimpArgs false
namespace Go.Proofs.YtenehghpmnajpaaDoor
open Go.RowKit
open Classical

/-- Branches in rows of the call's own. -/
def BrnsAt (base : Nat) (w : World) (v : Value) (xs : List (Brn × Option Addr × Nat)) : Prop :=
  w.ownsRow base 76 3 v xs.length (xs.flatMap encN) ∧ NextAt base w xs
/-- The refutation that the program builds, whole. -/
noncomputable def refS (l : List Clk) (ms : List Lmt) : List Brn := refB l ms (opens (startS l) + 1) (startS l) 0
def GivesRefute (w : World) (l : List Clk) (ms : List Lmt) (e : Ending) (w' : World) : Prop :=
  Gr w w' ∧ (((∃ s, SetOk l s ∧ meetS l ms s = true) ∧ e = .returned (.tuple #[.slice none 0 0, .int .i64 8])) ∨
    ((∀ s, SetOk l s → meetS l ms s = false) ∧ ∃ A cap xs, e = .returned (.tuple #[.slice A xs.length cap, .int .i64 0]) ∧ BrnsAt w.heap.size w' (.slice A xs.length cap) xs ∧ xs.map (·.1) = refS l ms))
set_option maxRecDepth 100000 in
set_option maxHeartbeats 2000000 in
theorem refute_any (l : List Clk) (ms : List Lmt) (al am : Option Addr) (cl cm : Nat) (w : World) (henv : Env w l ms al am) (h1 : 1 ≤ l.length) :
    Calls Tryd.prog 38 #[.slice al l.length cl, .slice am ms.length cm] w (GivesRefute w l ms) := by
  have hl := small_len (cchk_zero henv.chk).1
  have hml := henv.lims.1
  have SV := Lib.hid (solve_any l ms al am cl cm w henv h1)
  have HE := Lib.hid henv
  clear henv
  go_enter Tryd.func38, Tryd.ntmps38
  go_wp2_with fail
  refine SV.out.mono ?_
  rintro e w1 ⟨hg1, ⟨s, B, c, hs, hm, _, rfl, _, _⟩ | ⟨hno, rfl⟩⟩
  · have G1 := Lib.hid hg1
    have EX : Hid (∃ s, SetOk l s ∧ meetS l ms s = true) := Lib.hid ⟨s, hs, hm⟩
    clear hg1 hs hm SV
    go_wp2_with fail
    go_ret2
    exact ⟨G1.out, .inl ⟨EX.out, rfl⟩⟩
  · have G1 := Lib.hid hg1
    have HNO := Lib.hid hno
    have AL := Lib.hid (all_any l ms al am cl cm w1 (clks_gr HE.out.clks hg1) (lmts_gr HE.out.lmts hg1) hl hml)
    clear hg1 hno SV
    go_wp2_with fail
    refine AL.out.mono ?_
    rintro e w2 ⟨v, rfl, ho, hg2⟩
    obtain ⟨ab, cb, rfl, hb⟩ := bnds_of_owns ho
    have G2 := Lib.hid (G1.out.trans hg2)
    have HB := Lib.hid hb
    clear ho hb hg2 AL
    go_wp2_with fail
    obtain ⟨RB, hRB⟩ : ∃ RB : Nat, Hid (w2.heap.size = RB) := ⟨_, Lib.hid rfl⟩
    obtain ⟨W3, hW3⟩ : ∃ W3 : World, Hid (W3 = w2.alloc (.cells #[.slice al l.length cl, .slice ab (allB l ms).length cb, .slice none 0 0] 110)) := ⟨_, Lib.hid rfl⟩
    rw [← hW3.out, hRB.out]
    have R3 : Hid (Row W3 RB 110 [.slice al l.length cl, .slice ab (allB l ms).length cb, .slice none 0 0]) := Lib.hid (by rw [hW3.out, ← hRB.out]; exact Row.new w2 _ _)
    have G3 : Hid (Gr w2 W3) := Lib.hid (by rw [hW3.out]; exact (Gr.refl _).alloc _)
    clear hW3
    refine (start_any l al cl W3 HE.out.chk (clks_gr HE.out.clks (G2.out.trans G3.out)) h1).mono ?_
    rintro e w4 ⟨SB, rfl, hs4, hb4, hg4⟩
    have G4 := Lib.hid (G3.out.trans hg4)
    have RA : Hid (RefAt w2.heap.size w4 RB (.slice al l.length cl) (.slice ab (allB l ms).length cb) none 0 []) := Lib.hid
      ⟨R3.out.gr hg4, World.ownsRow_nil _ _ _ _, (fun b hb => by cases hb), by rw [hRB.out]; exact Nat.le_refl _⟩
    have S4 := Lib.hid hs4
    clear hs4 hb4 hg4 R3 G3
    have NE : Hid (NoExt l ms (startS l)) := Lib.hid (fun s hs _ => HNO.out s hs)
    have BR := Lib.hid (branch_any l ms w2 al am ab cl cm cb RB (HE.out.gr G2.out) HB.out h1 (opens (startS l) + 1) (startS l) (startS_ok HE.out.chk) (by omega) NE.out w4 none 0 [] SB l.length G4.out RA.out S4.out
      (by have := refB_small (g := opens (startS l) + 1) (a := 0) HE.out.chk HE.out.lims (startS_ok HE.out.chk) NE.out; simpa using (by omega : (refB l ms (opens (startS l) + 1) (startS l) 0).length ≤ 100000)))
    go_wp2_with fail
    refine BR.out.mono ?_
    rintro e w5 ⟨rfl, A, cap, ys, hr5, hy5, _, hg5, _⟩
    have q2 := hr5.row.cell 2 (by simp)
    have qh := hr5.row.has
    simp only [List.getElem_cons_zero, List.getElem_cons_succ, List.nil_append] at q2
    have FIN : Hid (BrnsAt w.heap.size w5 (.slice A ys.length cap) ys) := Lib.hid ⟨owns_low hr5.own G2.out.size, fun b hb => ⟨(hr5.nxt b hb).1.low G2.out.size, (hr5.nxt b hb).2⟩⟩
    have G5 := Lib.hid (G2.out.trans hg5)
    have YS := Lib.hid hy5
    clear hr5 hy5 hg5 BR RA S4 G4
    go_wp2_with fail
    go_ret2
    exact ⟨G5.out, .inr ⟨HNO.out, A, cap, ys, rfl, FIN.out, YS.out⟩⟩
end Go.Proofs.YtenehghpmnajpaaDoor

/- Lemmas and contracts for the proof of RetuneAnswers (several texts in one, printed by wip/tools/pack.py): Kg Tr. -/
import Derived.Test.YtenehghpmnajpaaGreatDoorRa8pj
import Derived.Test.YtenehghpmnajpaaGreatDoorRa8pb
import Derived.RangeFuncBox
import Derived.Test.YtenehghpmnajpaaGreatDoorRa8ph
import Derived.Test.YtenehghpmnajpaaGreatDoorRa8pf
import Derived.Lib.LaidTab
set_option maxRecDepth 100000
set_option maxHeartbeats 16000000

/-! Clocks in rows of the call's own: what they read as. -/
set_option linter.unusedVariables false
set_option linter.unusedSimpArgs false
namespace Go.Proofs.YtenehghpmnajpaaGreatDoor
open Go.RowKit
open Classical
theorem infoClk : (Tryz.prog.info? 79).map (fun i => (i.zero, i.size, i.bytes)) = some (some (.agg #[.int .i64 0, .slice none 0 0, .slice none 0 0, .int .i64 0, .int .i64 0]), 5, 72) := by kernel_rfl
structure CT where
  c : Clk
  ap : Option Addr
  cp : Nat
  ac : Option Addr
  cc : Nat
def encC (t : CT) : List Value := [.int .i64 t.c.kind, .slice t.ap t.c.parents.length t.cp, .slice t.ac t.c.choices.length t.cc, .int .i64 t.c.low, .int .i64 t.c.high]
theorem encC_len (t : CT) : (encC t).length = 5 := rfl
theorem encC_one (t : CT) : ∀ u ∈ encC t, u.oneCell' = true := by
  intro u hu
  simp only [encC, List.mem_cons, List.not_mem_nil, or_false] at hu
  rcases hu with rfl | rfl | rfl | rfl | rfl <;> rfl
theorem encCs_one (ts : List CT) : ∀ u ∈ ts.flatMap encC, u.oneCell' = true := by
  intro u hu
  obtain ⟨t, _, h⟩ := List.mem_flatMap.1 hu
  exact encC_one t u h
theorem encCs_len (ts : List CT) : (ts.flatMap encC).length = ts.length * 5 := flat_len encC 5 encC_len ts
def clks (ts : List CT) : List Clk := ts.map (·.c)
theorem clks_len (ts : List CT) : (clks ts).length = ts.length := by simp [clks]
theorem clks_snoc (ts : List CT) (t : CT) : clks (ts ++ [t]) = clks ts ++ [t.c] := by simp [clks]
def ChRow (base : Nat) (w : World) (t : CT) : Prop :=
  Own1 base w 3 (nums t.c.parents) t.ap ∧ t.c.parents.length ≤ t.cp ∧ Own1 base w 3 (nums t.c.choices) t.ac ∧ t.c.choices.length ≤ t.cc ∧ t.c.parents.length ≤ 8 ∧ t.c.choices.length ≤ 8 ∧
    Wide t.c.kind ∧ Wide t.c.low ∧ Wide t.c.high ∧ (∀ x ∈ t.c.parents, Wide x) ∧ (∀ x ∈ t.c.choices, Wide x)
def ChRows (base : Nat) (w : World) (ts : List CT) : Prop := ∀ t ∈ ts, ChRow base w t
theorem ChRow.mv {b len base : Nat} {w w1 : World} {t : CT} (h : ChRow base w t) (m : Mv b len w w1) (hb : b < base) : ChRow base w1 t :=
  ⟨m.own1 h.1 hb, h.2.1, m.own1 h.2.2.1 hb, h.2.2.2⟩
theorem ChRow.gr {base : Nat} {w w1 : World} {t : CT} (h : ChRow base w t) (g : Gr w w1) : ChRow base w1 t := ⟨h.1.gr g, h.2.1, h.2.2.1.gr g, h.2.2.2⟩
theorem ChRow.grown {base : Nat} {w w1 : World} {row : Option Nat} {t : CT} (h : ChRow base w t) (hg : w.grownBy w1 row) (hne : ∀ B vs, RowS w B 3 vs → some B ≠ row) : ChRow base w1 t :=
  ⟨h.1.grown hg (fun B hB => hne B _ hB), h.2.1, h.2.2.1.grown hg (fun B hB => hne B _ hB), h.2.2.2⟩
theorem ChRows.mv {b len base : Nat} {w w1 : World} {ts : List CT} (h : ChRows base w ts) (m : Mv b len w w1) (hb : b < base) : ChRows base w1 ts := fun t ht => (h t ht).mv m hb
theorem ChRows.gr {base : Nat} {w w1 : World} {ts : List CT} (h : ChRows base w ts) (g : Gr w w1) : ChRows base w1 ts := fun t ht => (h t ht).gr g
theorem ChRows.grown {base : Nat} {w w1 : World} {row : Option Nat} {ts : List CT} (h : ChRows base w ts) (hg : w.grownBy w1 row) (hne : ∀ B vs, RowS w B 3 vs → some B ≠ row) : ChRows base w1 ts := fun t ht => (h t ht).grown hg hne
theorem ChRows.snoc {base : Nat} {w : World} {ts : List CT} {t : CT} (h : ChRows base w ts) (k : ChRow base w t) : ChRows base w (ts ++ [t]) := by
  intro x hx
  rcases List.mem_append.1 hx with q | q
  · exact h x q
  · rw [List.mem_singleton.1 q]; exact k
theorem rclk_of {w : World} {g o base : Nat} {t : CT} (key : ∀ j, j < 5 → w.cell? ⟨g, o + j, none⟩ = (encC t)[j]?) (h : ChRow base w t) : RClk w g o t.c := by
  obtain ⟨h1, h2, h3, h4, h5, h6, h7, h8, h9, h10, h11⟩ := h
  refine ⟨⟨key 0 (by omega), h7⟩, ⟨t.ap, t.cp, key 1 (by omega), h2, by unfold Fit; omega, h1.slI fun j hj => h10 _ (List.getElem_mem hj)⟩, ⟨t.ac, t.cc, key 2 (by omega), h4, by unfold Fit; omega, h3.slI fun j hj => h11 _ (List.getElem_mem hj)⟩, ⟨key 3 (by omega), h8⟩, ⟨key 4 (by omega), h9⟩⟩
theorem clks_at {base : Nat} {w : World} {v : Value} {ts : List CT} (h : w.ownsRow base 79 5 v ts.length (ts.flatMap encC)) {base' : Nat} (hr : ChRows base' w ts) (hn : 0 < ts.length) :
    ∃ a c, v = .slice a ts.length c ∧ ts.length ≤ c ∧ SlOf 5 RClk w a (clks ts) := by
  obtain ⟨g, cap, rfl, hc, hb, hcell⟩ := owns_cell h hn
  refine ⟨_, cap, rfl, hc, fun k hk => ⟨g, 0, rfl, ?_⟩⟩
  have hk' : k < ts.length := by simpa [clks] using hk
  have hs : (clks ts)[k] = ts[k].c := by simp [clks]
  rw [hs]
  refine rclk_of (t := ts[k]) (fun j hj => ?_) (hr _ (List.getElem_mem hk'))
  rw [← flat_at encC 5 encC_len ts k j hk' hj, Nat.zero_add]
  exact hcell _ (by omega)
def MakesClks (b len n most : Nat) (w : World) (e : Ending) (w' : World) : Prop :=
  ∃ ts v, e = .returned v ∧ w'.ownsRow w.heap.size 79 5 v ts.length (ts.flatMap encC) ∧ ChRows w.heap.size w' ts ∧ cchk (clks ts) = 0 ∧ 1 ≤ ts.length ∧ ts.length ≤ n ∧ prodC (clks ts) ≤ most ∧ Mv b len w w'
theorem cchk_fixed (x lo hi : Int) (h0 : 1 ≤ x) (h1 : x ≤ 4000000000) (l0 : 0 ≤ lo) (l1 : lo ≤ hi) (l2 : hi ≤ 4000000000) : cchk [⟨1, [], [x], lo, hi⟩] = 0 := by
  refine cchk_ok ?_ ?_ (by simp [prodC]) (by simp [facs, facsGo, facStep, maxAt, isFac])
  · rintro (q | ⟨k, hk, q⟩)
    · simp at q
    · have : k = 0 := by simpa using hk
      subst this
      simp [BigC] at q
  · intro k hk
    have : k = 0 := by simpa using hk
    subst this
    exact ⟨by simp, fun j hj => absurd hj (by simp), .inl ⟨rfl, rfl, rfl, h0, h1⟩, l0, l1, l2⟩
end Go.Proofs.YtenehghpmnajpaaGreatDoor
/-! A statement of Clocks by an invariant (printed by wip/tools/ckp.py). -/
set_option linter.unusedVariables false
set_option linter.unusedSimpArgs false
namespace Go.Proofs.YtenehghpmnajpaaGreatDoor
open Go.RowKit
open Classical
theorem step_append_grows {P : Program} (w : World) {ops : Array Oper} {o : Oper} {a : Act} {K : Act → World → Prop} {Q : Exit → Act → World → Prop} {E : Prop}
    (hgd : o.guard = none) (s x : Operand) (t : TypeId) (hop : o.op = Op.call { callee := Callee.builtin Builtin.append, args := #[s, x], argTypes := #[t, t] })
    (e : TypeId) (i : TypeInfo) (z : Value) (size bytes : Nat) (h1 : P.underlying t = some (.slice e)) (h2 : P.info? e = some i) (h3 : i.zero = some z) (h4 : i.size = size) (h5 : i.bytes = bytes) (h6 : z.cells.size = size) (h7 : 0 < size)
    (b : Addr) (n cap : Nat) (olds : List Value) (hs : a.eval s = .slice (some b) n cap) (hlo : olds.length = n * size) (holds : ∀ j u, olds[j]? = some u → w.cell? (b.add j) = some u)
    (ad : Addr) (m c : Nat) (news : List Value) (hx : a.eval x = .slice (some ad) m c) (hn : news.length = m * size) (hc : ∀ j u, news[j]? = some u → w.cell? (ad.add j) = some u) (h1c : ∀ u ∈ news, u.oneCell' = true)
    (hfull : cap < n + m) (b1 : n + m ≤ maxLen) (b2 : (n + m) * bytes ≤ 140737488355328)
    (hK : ∀ v' w', w'.ownsRow w.heap.size e size v' (n + m) (olds ++ news) → w.grownBy w' none → K (a.put o.dst v') w') :
    if Region.wanted o (yielded ops a.tmps) = true then Oper.wp P o a w K Q else E := by
  rw [if_pos (by simp [Region.wanted, hgd])]
  obtain ⟨v', w', hrun, r1, r2⟩ := run_append_arg_grows (P := P) w t o.type e i z size bytes h1 h2 h3 h4 h5 h6 h7 b n cap olds hlo holds ad m c news hn hc hfull b1 b2
  unfold Oper.wp
  simp [execOp, hop, resolve, invoke, builtin, hs, hx, hrun, Result.andThen]
  exact hK v' w' r1 r2
theorem own_cells {w : World} {base e size n : Nat} {a : Option Addr} {c : Nat} {xs : List Value} (h : w.ownsRow base e size (.slice a n c) n xs) (hn : 0 < n) : ∃ g, a = some ⟨g, 0, none⟩ ∧ ∀ j u, xs[j]? = some u → w.cell? ((⟨g, 0, none⟩ : Addr).add j) = some u := by
  obtain ⟨g, cap, e', _, _, hc⟩ := owns_cell h hn
  cases e'
  refine ⟨g, rfl, fun j u hu => ?_⟩
  obtain ⟨hj, _⟩ := List.getElem?_eq_some_iff.1 hu
  have hl := h.1
  rw [Addr.add_lit, Nat.zero_add, hc j (by omega), hu]
theorem row_cells {w : World} {B T : Nat} {xs : List Value} (h : Row w B T xs) : ∀ j u, xs[j]? = some u → w.cell? ((⟨B, 0, none⟩ : Addr).add j) = some u := by
  intro j u hu
  obtain ⟨hj, e⟩ := List.getElem?_eq_some_iff.1 hu
  rw [Addr.add_lit, Nat.zero_add, h.cell j hj, e]
def ck8F (wr : World) (ts : List CT) (t : CT) (ao : Option Addr) (cap B10 : Nat) (t35 t36 t37 t38 t39 t40 t41 t42 : Value) (d : Array Bool) (w : World) : Prop :=
  Gr wr w ∧ (d.getD 0 false = true → ∃ B, t35 = .slice (some ⟨B, 0, none⟩) 0 0) ∧
  (d.getD 1 false = true → t36 = .slice ao ts.length cap) ∧
  (d.getD 2 false = true → (d.getD 5 false = false → w.ownsRow wr.heap.size 79 5 t37 ts.length (ts.flatMap encC))) ∧
  (d.getD 3 false = true → t38 = .agg #[.int .i64 t.c.kind, .slice t.ap t.c.parents.length t.cp, .slice t.ac t.c.choices.length t.cc, .int .i64 t.c.low, .int .i64 t.c.high]) ∧
  (d.getD 4 false = true → ∃ B, t39 = .slice (some ⟨B, 0, none⟩) 1 1 ∧ (d.getD 5 false = false → Row w B 79 (encC t))) ∧
  (d.getD 5 false = true → (d.getD 2 false = true ∧ d.getD 4 false = true) ∧ w.ownsRow wr.heap.size 79 5 t40 (ts.length + 1) ((ts ++ [t]).flatMap encC)) ∧
  (d.getD 6 false = true → t41 = .int .i64 (cchk (clks (ts ++ [t])))) ∧
  (d.getD 7 false = true → t42 = .bool (cchk (clks (ts ++ [t])) != 0))
def ck8A (ts : List CT) (ao : Option Addr) (cap B10 : Nat) (t35 t36 t37 t38 t39 t40 t41 t42 s0 s1 s2 s3 s4 s5 s6 s8 s9 s11 s12 s13 s14 s15 s16 s17 s18 s19 s20 s21 s22 s23 s24 s25 s26 s27 s28 s29 s30 s31 s32 s33 s34 s43 s44 s45 s46 s47 s48 s49 s50 s51 s52 : Value) : Act := { tmps := #[s0, s1, s2, s3, s4, s5, s6, .slice ao ts.length cap, s8, s9, .pointer (some ⟨B10, 0, none⟩), s11, s12, s13, s14, s15, s16, s17, s18, s19, s20, s21, s22, s23, s24, s25, s26, s27, s28, s29, s30, s31, s32, s33, s34, t35, t36, t37, t38, t39, t40, t41, t42, s43, s44, s45, s46, s47, s48, s49, s50, s51, s52], defers := [] }
theorem ck8 {Q : Exit → Act → World → Prop} {wr : World} {ts : List CT} {t : CT} {ao : Option Addr} {cap B10 : Nat}  {s0 s1 s2 s3 s4 s5 s6 s8 s9 s11 s12 s13 s14 s15 s16 s17 s18 s19 s20 s21 s22 s23 s24 s25 s26 s27 s28 s29 s30 s31 s32 s33 s34 s35 s36 s37 s38 s39 s40 s41 s42 s43 s44 s45 s46 s47 s48 s49 s50 s51 s52 : Value} {base base2 : Nat} (h : wr.ownsRow base2 79 5 (.slice ao ts.length cap) ts.length (ts.flatMap encC)) (hc : ChRows base wr ts) (ht : ChRow base wr t) (RB : Row wr B10 79 [.int .i64 t.c.kind, .slice t.ap t.c.parents.length t.cp, .slice t.ac t.c.choices.length t.cc, .int .i64 t.c.low, .int .i64 t.c.high]) (hn1 : 0 < ts.length) (hn2 : ts.length ≤ 100)
    (h' : ∀ t35 t36 t37 t38 t39 t40 t41 wx, Gr wr wx → Q .normal (ck8A ts ao cap B10 t35 t36 t37 t38 t39 t40 t41 (.bool (cchk (clks (ts ++ [t])) != 0)) s0 s1 s2 s3 s4 s5 s6 s8 s9 s11 s12 s13 s14 s15 s16 s17 s18 s19 s20 s21 s22 s23 s24 s25 s26 s27 s28 s29 s30 s31 s32 s33 s34 s43 s44 s45 s46 s47 s48 s49 s50 s51 s52) wx) :
    (Code.region 8 (regIn 8 Tryz.f10) true).wp Tryz.prog Q { tmps := #[s0, s1, s2, s3, s4, s5, s6, .slice ao ts.length cap, s8, s9, .pointer (some ⟨B10, 0, none⟩), s11, s12, s13, s14, s15, s16, s17, s18, s19, s20, s21, s22, s23, s24, s25, s26, s27, s28, s29, s30, s31, s32, s33, s34, s35, s36, s37, s38, s39, s40, s41, s42, s43, s44, s45, s46, s47, s48, s49, s50, s51, s52], defers := [] } wr := by
  have H := PLift.up h
  have HC := PLift.up hc
  have HT := PLift.up ht
  clear h hc ht
  obtain ⟨j0, hj, hy0, hy1, hy2⟩ := info_parts infoClk
  simp only [regIn, Tryz.f10, regOps, Option.bind_some, Option.getD_some, Nat.beq, cond_true, cond_false]
  refine wp_region_steps (fun done a w => ∃ t35 t36 t37 t38 t39 t40 t41 t42, a = ck8A ts ao cap B10 t35 t36 t37 t38 t39 t40 t41 t42 s0 s1 s2 s3 s4 s5 s6 s8 s9 s11 s12 s13 s14 s15 s16 s17 s18 s19 s20 s21 s22 s23 s24 s25 s26 s27 s28 s29 s30 s31 s32 s33 s34 s43 s44 s45 s46 s47 s48 s49 s50 s51 s52 ∧ ck8F wr ts t ao cap B10 t35 t36 t37 t38 t39 t40 t41 t42 done w) (by kernel_rfl) (by kernel_rfl) ?_ ⟨?_, ?_, ?_, ?_, ?_, ?_, ?_, ?_, trivial⟩ ?_
  · exact ⟨s35, s36, s37, s38, s39, s40, s41, s42, rfl, (Gr.refl _).drew, fun q => absurd q (by decide), fun q => absurd q (by decide), fun q => absurd q (by decide), fun q => absurd q (by decide), fun q => absurd q (by decide), fun q => absurd q (by decide), fun q => absurd q (by decide), fun q => absurd q (by decide)⟩
  · rintro done a w hsz hnot hdep ⟨t35, t36, t37, t38, t39, t40, t41, t42, rfl, gw, f0, f1, f2, f3, f4, f5, f6, f7⟩ K hK
    have hn : ¬ done.getD 0 false = true := by rw [getD_both hnot]; decide
    have HK := PLift.up hK
    clear hK 
    simp only [ck8A]
    go_simp
    have gg : Gr w (w.alloc (.cells #[] 79)) := (Gr.refl _).alloc _
    refine HK.down _ _ ⟨_, _, _, _, _, _, _, _, rfl, gw.trans gg, ?_, kp f1, fun q q2 => Gr.owns (f2 (done_old q (by decide)) (by rw [getD_set_ne false (by decide)] at q2; exact q2)) gg, kp f3, fun q => (let ⟨B, e, h2⟩ := f4 (done_old q (by decide)); ⟨B, e, fun q2 => (h2 (by rw [getD_set_ne false (by decide)] at q2; exact q2)).gr gg⟩), fun q => ⟨⟨getD_set_true (f5 (done_old q (by decide))).1.1, getD_set_true (f5 (done_old q (by decide))).1.2⟩, Gr.owns (f5 (done_old q (by decide))).2 gg⟩, kp f6, kp f7⟩
    exact fun _ => ⟨_, rfl⟩
  · rintro done a w hsz hnot hdep ⟨t35, t36, t37, t38, t39, t40, t41, t42, rfl, gw, f0, f1, f2, f3, f4, f5, f6, f7⟩ K hK
    have hn : ¬ done.getD 1 false = true := by rw [getD_both hnot]; decide
    have HK := PLift.up hK
    clear hK 
    simp only [ck8A]
    go_simp
    have gg : Gr w w := Gr.refl _
    refine HK.down _ _ ⟨_, _, _, _, _, _, _, _, rfl, gw, kp f0, fun _ => rfl, fun q q2 => Gr.owns (f2 (done_old q (by decide)) (by rw [getD_set_ne false (by decide)] at q2; exact q2)) gg, kp f3, fun q => (let ⟨B, e, h2⟩ := f4 (done_old q (by decide)); ⟨B, e, fun q2 => (h2 (by rw [getD_set_ne false (by decide)] at q2; exact q2)).gr gg⟩), fun q => ⟨⟨getD_set_true (f5 (done_old q (by decide))).1.1, getD_set_true (f5 (done_old q (by decide))).1.2⟩, Gr.owns (f5 (done_old q (by decide))).2 gg⟩, kp f6, kp f7⟩
  · rintro done a w hsz hnot hdep ⟨t35, t36, t37, t38, t39, t40, t41, t42, rfl, gw, f0, f1, f2, f3, f4, f5, f6, f7⟩ K hK
    have hn : ¬ done.getD 2 false = true := by rw [getD_both hnot]; decide
    have d0 := hdep 0 (by kernel_rfl)
    have d1 := hdep 1 (by kernel_rfl)
    obtain rfl := f1 d1
    obtain ⟨B0, rfl⟩ := f0 d0
    obtain ⟨g, rfl, hcs⟩ := own_cells (Gr.owns H.down gw) hn1
    refine step_append_grows _ rfl _ _ 23 rfl 79 j0 (.agg #[.int .i64 0, .slice none 0 0, .slice none 0 0, .int .i64 0, .int .i64 0]) 5 72 Tryz.underlying23 hj hy0 hy1 hy2 rfl (by decide) ⟨B0, 0, none⟩ 0 0 [] (by simp [Act.eval, ck8A]) rfl (by simp) ⟨g, 0, none⟩ ts.length cap (ts.flatMap encC) (by simp [Act.eval, ck8A]) (encCs_len ts) hcs (encCs_one ts) (by omega) (by unfold maxLen; omega) (by omega) ?_
    intro v w2 hown hgrow
    rw [Nat.zero_add, List.nil_append] at hown
    have gg : Gr w w2 := Gr.grown (Gr.refl w) hgrow (fun k e => by cases e)
    have OW := PLift.up (owns_low hown gw.size)
    refine hK _ _ ⟨_, _, _, _, _, _, _, _, rfl, gw.trans gg, kp f0, kp f1, ?_, kp f3, fun q => (let ⟨B, e, h2⟩ := f4 (done_old q (by decide)); ⟨B, e, fun q2 => (h2 (by rw [getD_set_ne false (by decide)] at q2; exact q2)).gr gg⟩), fun q => absurd (f5 (done_old q (by decide))).1.1 hn, kp f6, kp f7⟩
    exact fun _ _ => OW.down
  · rintro done a w hsz hnot hdep ⟨t35, t36, t37, t38, t39, t40, t41, t42, rfl, gw, f0, f1, f2, f3, f4, f5, f6, f7⟩ K hK
    have hn : ¬ done.getD 3 false = true := by rw [getD_both hnot]; decide
    have r := RB.gr gw
    have c0 := r.cell 0 (by simp)
    have c1 := r.cell 1 (by simp)
    have c2 := r.cell 2 (by simp)
    have c3 := r.cell 3 (by simp)
    have c4 := r.cell 4 (by simp)
    have ch := r.has
    simp only [List.getElem_cons_zero, List.getElem_cons_succ] at c0 c1 c2 c3 c4
    clear r
    have HK := PLift.up hK
    clear hK 
    simp only [ck8A]
    go_simp
    have gg : Gr w w := Gr.refl _
    refine HK.down _ _ ⟨_, _, _, _, _, _, _, _, rfl, gw, kp f0, kp f1, fun q q2 => Gr.owns (f2 (done_old q (by decide)) (by rw [getD_set_ne false (by decide)] at q2; exact q2)) gg, fun _ => rfl, fun q => (let ⟨B, e, h2⟩ := f4 (done_old q (by decide)); ⟨B, e, fun q2 => (h2 (by rw [getD_set_ne false (by decide)] at q2; exact q2)).gr gg⟩), fun q => ⟨⟨getD_set_true (f5 (done_old q (by decide))).1.1, getD_set_true (f5 (done_old q (by decide))).1.2⟩, Gr.owns (f5 (done_old q (by decide))).2 gg⟩, kp f6, kp f7⟩
  · rintro done a w hsz hnot hdep ⟨t35, t36, t37, t38, t39, t40, t41, t42, rfl, gw, f0, f1, f2, f3, f4, f5, f6, f7⟩ K hK
    have hn : ¬ done.getD 4 false = true := by rw [getD_both hnot]; decide
    have d3 := hdep 3 (by kernel_rfl)
    obtain rfl := f3 d3
    have HK := PLift.up hK
    clear hK d3
    simp only [ck8A]
    go_simp
    have gg : Gr w (w.alloc (.cells #[.int .i64 t.c.kind, .slice t.ap t.c.parents.length t.cp, .slice t.ac t.c.choices.length t.cc, .int .i64 t.c.low, .int .i64 t.c.high] 79)) := (Gr.refl _).alloc _
    refine HK.down _ _ ⟨_, _, _, _, _, _, _, _, rfl, gw.trans gg, kp f0, kp f1, fun q q2 => Gr.owns (f2 (done_old q (by decide)) (by rw [getD_set_ne false (by decide)] at q2; exact q2)) gg, kp f3, ?_, fun q => absurd (f5 (done_old q (by decide))).1.2 hn, kp f6, kp f7⟩
    exact fun _ => ⟨_, rfl, fun _ => Row.new w _ _⟩
  · rintro done a w hsz hnot hdep ⟨t35, t36, t37, t38, t39, t40, t41, t42, rfl, gw, f0, f1, f2, f3, f4, f5, f6, f7⟩ K hK
    have hn : ¬ done.getD 5 false = true := by rw [getD_both hnot]; decide
    have d2 := hdep 2 (by kernel_rfl)
    have d4 := hdep 4 (by kernel_rfl)
    have n5 := getD_both hnot
    obtain ⟨B, rfl, r3⟩ := f4 d4
    have o1 := f2 d2 n5
    refine step_append_gets _ rfl _ _ 23 rfl wr.heap.size 79 j0 (.agg #[.int .i64 0, .slice none 0 0, .slice none 0 0, .int .i64 0, .int .i64 0]) 5 72 Tryz.underlying23 hj hy0 hy1 hy2 rfl (by decide) t37 ts.length (ts.flatMap encC) (by simp [Act.eval, ck8A]) o1 (some ⟨B, 0, none⟩) 1 1 (encC t) (by simp [Act.eval, ck8A]) ⟨rfl, fun _ => ⟨_, rfl, row_cells (r3 n5)⟩⟩ (encC_one t) (by unfold maxLen; omega) (by omega) gw.size ?_
    intro v w2 hown hgrow _
    refine hK _ _ ⟨_, _, _, _, _, _, _, _, rfl, gw.grown hgrow (fun k e => (owns_block o1 k e).1), kp f0, kp f1, fun _ q => absurd q (by rw [getD_set_same (by rw [hsz]; decide)]; decide), kp f3, fun _ => ⟨B, rfl, fun q => absurd q (by rw [getD_set_same (by rw [hsz]; decide)]; decide)⟩, ?_, kp f6, kp f7⟩
    exact fun _ => ⟨⟨getD_set_true d2, getD_set_true d4⟩, by rw [List.flatMap_append]; simpa using hown⟩
  · rintro done a w hsz hnot hdep ⟨t35, t36, t37, t38, t39, t40, t41, t42, rfl, gw, f0, f1, f2, f3, f4, f5, f6, f7⟩ K hK
    have hn : ¬ done.getD 6 false = true := by rw [getD_both hnot]; decide
    have d5 := hdep 5 (by kernel_rfl)
    have o5 : w.ownsRow wr.heap.size 79 5 t40 (ts ++ [t]).length ((ts ++ [t]).flatMap encC) := by rw [List.length_append]; exact (f5 d5).2
    have hcr : ChRows base w (ts ++ [t]) := (HC.down.gr gw).snoc (HT.down.gr gw)
    obtain ⟨a5, c5, e5, hc5, sl5⟩ := clks_at o5 hcr (by simp)
    obtain rfl : t40 = .slice a5 (ts.length + 1) c5 := by rw [e5, List.length_append]; rfl
    have rc := fun W hS => refCheck_any (clks (ts ++ [t])) a5 c5 W hS (by rw [clks_len]; unfold Fit; simp; omega)
    simp only [clks_len, List.length_append, List.length_cons, List.length_nil, Nat.zero_add] at rc
    have RC := PLift.up rc
    have SL5 := PLift.up sl5
    have HK := PLift.up hK
    clear hK rc sl5 o5 hcr e5
    simp only [ck8A]
    go_simp
    refine (RC.down _ SL5.down).mono ?_
    rintro e w2 ⟨rfl, hg⟩
    have gg : Gr w w2 := hg
    clear hg
    (try go_simp)
    refine HK.down _ _ ⟨_, _, _, _, _, _, _, _, rfl, gw.trans gg, kp f0, kp f1, fun q q2 => Gr.owns (f2 (done_old q (by decide)) (by rw [getD_set_ne false (by decide)] at q2; exact q2)) gg, kp f3, fun q => (let ⟨B, e, h2⟩ := f4 (done_old q (by decide)); ⟨B, e, fun q2 => (h2 (by rw [getD_set_ne false (by decide)] at q2; exact q2)).gr gg⟩), fun q => ⟨⟨getD_set_true (f5 (done_old q (by decide))).1.1, getD_set_true (f5 (done_old q (by decide))).1.2⟩, Gr.owns (f5 (done_old q (by decide))).2 gg⟩, fun _ => rfl, kp f7⟩
  · rintro done a w hsz hnot hdep ⟨t35, t36, t37, t38, t39, t40, t41, t42, rfl, gw, f0, f1, f2, f3, f4, f5, f6, f7⟩ K hK
    have hn : ¬ done.getD 7 false = true := by rw [getD_both hnot]; decide
    have d6 := hdep 6 (by kernel_rfl)
    obtain rfl := f6 d6
    have HK := PLift.up hK
    clear hK d6
    simp only [ck8A]
    go_simp
    have gg : Gr w w := Gr.refl _
    refine HK.down _ _ ⟨_, _, _, _, _, _, _, _, rfl, gw, kp f0, kp f1, fun q q2 => Gr.owns (f2 (done_old q (by decide)) (by rw [getD_set_ne false (by decide)] at q2; exact q2)) gg, kp f3, fun q => (let ⟨B, e, h2⟩ := f4 (done_old q (by decide)); ⟨B, e, fun q2 => (h2 (by rw [getD_set_ne false (by decide)] at q2; exact q2)).gr gg⟩), fun q => ⟨⟨getD_set_true (f5 (done_old q (by decide))).1.1, getD_set_true (f5 (done_old q (by decide))).1.2⟩, Gr.owns (f5 (done_old q (by decide))).2 gg⟩, kp f6, fun _ => rfl⟩
  · rintro done a w hall ⟨t35, t36, t37, t38, t39, t40, t41, t42, rfl, gw, f0, f1, f2, f3, f4, f5, f6, f7⟩
    obtain rfl := f7 (hall 7 (by decide))
    exact h' _ _ _ _ _ _ _ w gw
end Go.Proofs.YtenehghpmnajpaaGreatDoor
/-! Contract of bringupclocks.Clocks (printed by wip/tools/ckn.py). -/
set_option linter.unusedVariables false
set_option linter.unusedSimpArgs false
namespace Go.Proofs.YtenehghpmnajpaaGreatDoor
open Go.RowKit
open Classical
theorem owns_newC (w : World) (ts : List CT) (arr : Array Value) (ha : arr.toList = ts.flatMap encC) (base B n : Nat) (hn : ts.length = n) (hB : w.heap.size = B) (hb : base ≤ B) (hm : n ≤ 1000000) :
    (w.alloc (.cells arr 79)).ownsRow base 79 5 (.slice (some ⟨B, 0, none⟩) n n) n (ts.flatMap encC) := by
  subst hB hn
  have hl : arr.size = ts.length * 5 := by rw [← Array.length_toList, ha, encCs_len]
  refine ⟨by rw [encCs_len], .inr ⟨w.heap.size, ts.length, arr, rfl, hb, heap_alloc_new w _, Nat.le_refl _, by unfold maxLen; omega, hl, ?_⟩⟩
  rw [ha, List.take_of_length_le (by rw [encCs_len]; exact Nat.le_refl _)]
theorem clocks_any (w : World) (b len n most : Nat) (ht : Tp w b len) (hn : 1 ≤ n) (hn1 : n ≤ 16) (hm : 1 ≤ most) (hm1 : most ≤ 4096) :
    Calls Tryz.prog 10 #[.pointer (some ⟨b, 0, none⟩), .int .i64 n, .int .i64 most] w (MakesClks b len n most w) := by
  have TT := Lib.hid ht
  have hb := ht.has
  have HB := Lib.hid hb
  clear ht hb
  obtain ⟨i0, hi, hz0, hz1, hz2⟩ := info_parts infoInt
  obtain ⟨j0, hj, hy0, hy1, hy2⟩ := info_parts infoClk
  go_enter Tryz.func10, Tryz.ntmps10
  go_wp2_with fail
  refine (pickNew_any w b len TT.out _ rfl _ 4 [12, 24, 100, 24000000] (InTo 1 24000000) rfl rfl (by omega) (by omega) (by simp [InTo])).mono ?_
  rintro e w1 ⟨x, rfl, ⟨x0, x1⟩, hm1'⟩
  have M1 := Lib.hid hm1'
  clear hm1'
  go_wp2_with fail
  obtain ⟨W2, hW2⟩ : ∃ W2 : World, Hid (W2 = (w1.alloc (.cells #[.int .i64 x] 3)).alloc (.cells #[.int .i64 1, .slice none 0 0, .slice (some ⟨w1.heap.size, 0, none⟩) 1 1, .int .i64 0, .int .i64 0] 79)) := ⟨_, Lib.hid rfl⟩
  rw [← hW2.out]
  have t0 : Hid (ChRow w.heap.size W2 ⟨⟨1, [], [x], 0, 0⟩, none, 0, some ⟨w1.heap.size, 0, none⟩, 1⟩) := Lib.hid (by
    rw [hW2.out]
    refine ⟨.inl rfl, Nat.le_refl _, ((own1_at w1 [x] #[.int .i64 x] rfl 3 w.heap.size w1.heap.size rfl M1.out.size).gr ((Gr.refl _).alloc _)), Nat.le_refl _, by simp, by simp, by unfold Wide; simp, by unfold Wide; simp, by unfold Wide; simp, by simp, ?_⟩
    intro y hy
    have : y = x := by simpa using hy
    subst this; unfold Wide; omega)
  have o0 : Hid (W2.ownsRow w.heap.size 79 5 (.slice (some ⟨w1.heap.size + 1, 0, none⟩) 1 1) 1 ([(⟨⟨1, [], [x], 0, 0⟩, none, 0, some ⟨w1.heap.size, 0, none⟩, 1⟩ : CT)].flatMap encC)) := Lib.hid (by
    rw [hW2.out]; exact owns_newC _ [⟨⟨1, [], [x], 0, 0⟩, none, 0, some ⟨w1.heap.size, 0, none⟩, 1⟩] _ rfl _ _ 1 rfl (by simp) (by have := M1.out.size; omega) (by omega))
  have M2 : Hid (Mv b len w W2) := Lib.hid (by rw [hW2.out]; exact (M1.out.alloc _).alloc _)
  have c0 := Lib.hid (cchk_fixed x 0 0 (by omega) (by omega) (by omega) (by omega) (by omega))
  obtain ⟨B0, hB0⟩ : ∃ B0 : Nat, Hid (w1.heap.size = B0) := ⟨_, Lib.hid rfl⟩
  rw [hB0.out] at t0 o0
  rw [hB0.out]
  clear hW2 M1 hB0
  refine (nM_any W2 b len n (M2.out.tp TT.out) (by omega) (by omega)).mono ?_
  rintro e w3 ⟨m0, rfl, ⟨m00, m01⟩, hm3⟩
  obtain ⟨m0, rfl⟩ := Int.eq_ofNat_of_zero_le m00
  have T3 := Lib.hid (t0.out.mv hm3 HB.out)
  have O3 := Lib.hid (hm3.owns o0.out HB.out)
  have M3 := Lib.hid (M2.out.trans HB.out hm3)
  clear hm3 t0 o0 M2
  go_wp2_with fail
  go_loopw [7, 8, 9] (fun s7 s8 s9 wr => ∃ (ts : List CT) (m a c : _), s7 = .slice a ts.length c ∧ s8 = .int .i64 (prodC (clks ts)) ∧ s9 = .int .i64 (m : Nat) ∧ wr.ownsRow w.heap.size 79 5 (.slice a ts.length c) ts.length (ts.flatMap encC) ∧ ChRows w.heap.size wr ts ∧ cchk (clks ts) = 0 ∧ 1 ≤ ts.length ∧ ts.length + m ≤ n ∧ prodC (clks ts) ≤ most ∧ Mv b len w wr) (fun _ _ s9 _ => (intOf s9).toNat)
  case atStart => exact ⟨[⟨⟨1, [], [x], 0, 0⟩, none, 0, some ⟨B0, 0, none⟩, 1⟩], m0, some ⟨B0 + 1, 0, none⟩, 1, rfl, rfl, rfl, O3.out, fun t ht => by rw [List.mem_singleton.1 ht]; exact T3.out, c0.out, by simp, by simp; omega, by simp [clks, prodC]; omega, M3.out⟩
  case round =>
    clear T3 O3 M3 c0
    obtain ⟨ts, m, a, c, rfl, rfl, rfl, ho, hr, hck, hge, hle, hpr, hm⟩ := hrel
    have HO := Lib.hid ho
    have HR := Lib.hid hr
    have CK := Lib.hid hck
    have HM := Lib.hid hm
    have bw : Hid (b < wr.heap.size) := Lib.hid (hm.tp TT.out).has
    have PP := Lib.hid hpr
    obtain ⟨P, hP⟩ : ∃ P : Nat, Hid (prodC (clks ts) = P) := ⟨_, Lib.hid rfl⟩
    rw [hP.out] at hpr ⊢
    clear ho hr hck hm
    obtain ⟨wo, rfl⟩ : ∃ wo : World, wo = wr := ⟨_, rfl⟩
    by_cases hm0 : 0 < m
    · have g0 : (0 : Int) < m := by omega
      obtain ⟨m', rfl⟩ : ∃ m', m = m' + 1 := ⟨m - 1, by omega⟩
      go_wp2_with fail
      refine (one_any wo b len ts.length (HM.out.tp TT.out) (by omega) (by omega)).mono ?_
      rintro e w4 ⟨kd, ps, cs, lo, hi', ap, cp, ac, cc, rfl, hol, ⟨kd0, kd1⟩, ⟨lo0, lo1⟩, ⟨hi0, hi1⟩, hps, hpc, hcs, hcc, hm4⟩
      obtain ⟨hl1, hl2, hl3, hl4, hl5⟩ := hol
      have CR : Hid (ChRow w.heap.size w4 ⟨⟨kd, ps, cs, lo, hi'⟩, ap, cp, ac, cc⟩) := Lib.hid ⟨hps.low HM.out.size, hpc, hcs.low HM.out.size, hcc, by show ps.length ≤ 8; omega, by show cs.length ≤ 8; omega, by show Wide kd; unfold Wide; omega, by show Wide lo; unfold Wide; omega, by show Wide hi'; unfold Wide; omega, fun y hy => by have := hl4 y hy; unfold Near at this; unfold Wide; omega, fun y hy => by have := hl5 y hy; unfold Near at this; unfold Wide; omega⟩
      have O4 := Lib.hid (hm4.owns HO.out HB.out)
      have R4 := Lib.hid (HR.out.mv hm4 HB.out)
      have M4 := Lib.hid (HM.out.trans HB.out hm4)
      clear hps hcs hm4 HO HR HM hl4 hl5
      have pl0 : 0 ≤ (P : Int) * cs.length := Int.mul_nonneg (by omega) (by omega)
      have pl1 : (P : Int) * cs.length ≤ 4096 * 4 := Int.mul_le_mul (by omega) (by omega) (by omega) (by omega)
      by_cases hbig : (most : Int) < (P : Int) * cs.length
      · go_wp2_with fail
        go_roundw
        case rel => exact ⟨ts, m', a, c, rfl, by rw [hP.out], by go_num, O4.out.alloc _, R4.out.gr ((Gr.refl _).alloc _), CK.out, hge, by omega, by rw [hP.out]; exact hpr, M4.out.alloc _⟩
        case measure => simp [intOf]
      · go_upto_region 8 with (fail)
        obtain ⟨W5, hW5⟩ : ∃ W5 : World, Hid (W5 = w4.alloc (.cells #[.int .i64 kd, .slice ap ps.length cp, .slice ac cs.length cc, .int .i64 lo, .int .i64 hi'] 79)) := ⟨_, Lib.hid rfl⟩
        rw [← hW5.out]
        obtain ⟨B5, hB5⟩ : ∃ B5 : Nat, Hid (w4.heap.size = B5) := ⟨_, Lib.hid rfl⟩
        rw [hB5.out]
        have RB : Hid (Row W5 B5 79 [.int .i64 kd, .slice ap ps.length cp, .slice ac cs.length cc, .int .i64 lo, .int .i64 hi']) := Lib.hid (by rw [hW5.out, ← hB5.out]; exact Row.new w4 _ _)
        have O5 := Lib.hid (show W5.ownsRow w.heap.size 79 5 (.slice a ts.length c) ts.length (ts.flatMap encC) by rw [hW5.out]; exact O4.out.alloc _)
        have R5 := Lib.hid (show ChRows w.heap.size W5 ts by rw [hW5.out]; exact R4.out.gr ((Gr.refl _).alloc _))
        have C5 := Lib.hid (show ChRow w.heap.size W5 (⟨⟨kd, ps, cs, lo, hi'⟩, ap, cp, ac, cc⟩ : CT) by rw [hW5.out]; exact CR.out.gr ((Gr.refl _).alloc _))
        have M5 := Lib.hid (show Mv b len w W5 by rw [hW5.out]; exact M4.out.alloc _)
        clear hW5 hB5 O4 R4 CR M4
        refine wp_code_eq (c := Code.region 8 (regIn 8 Tryz.f10) true) (by kernel_rfl) (ck8 (wr := W5) (ts := ts) (t := (⟨⟨kd, ps, cs, lo, hi'⟩, ap, cp, ac, cc⟩ : CT)) (base := w.heap.size) (base2 := w.heap.size) O5.out R5.out C5.out RB.out (by omega) (by omega) ?_)
        intro t35 t36 t37 t38 t39 t40 t41 wx hgx
        simp only [ck8A]
        have RB2 := Lib.hid (RB.out.gr hgx)
        have O6 := Lib.hid (Gr.owns O5.out hgx)
        have R6 := Lib.hid (R5.out.gr hgx)
        have C6 := Lib.hid (C5.out.gr hgx)
        have M6 := Lib.hid (M5.out.gr hgx)
        clear hgx RB O5 R5 C5 M5
        by_cases hq : cchk (clks (ts ++ [(⟨⟨kd, ps, cs, lo, hi'⟩, ap, cp, ac, cc⟩ : CT)])) = 0
        · have hb : (cchk (clks (ts ++ [(⟨⟨kd, ps, cs, lo, hi'⟩, ap, cp, ac, cc⟩ : CT)])) != 0) = false := by simp [hq]
          rw [hb]
          have HQ := Lib.hid hq
          clear hb hq
          have r0 := RB2.out.cell 0 (by simp)
          have r1 := RB2.out.cell 1 (by simp)
          have r2 := RB2.out.cell 2 (by simp)
          have r3 := RB2.out.cell 3 (by simp)
          have r4 := RB2.out.cell 4 (by simp)
          have rh := RB2.out.has
          simp only [List.getElem_cons_zero, List.getElem_cons_succ] at r0 r1 r2 r3 r4
          have hbp : P * cs.length ≤ most := by have : ((P * cs.length : Nat) : Int) ≤ most := by rw [Int.natCast_mul]; omega
                                                omega
          go_wp2_with (at_builtin; refine wpList_append_own _ rfl _ _ 23 rfl w.heap.size 79 j0 (.agg #[.int .i64 0, .slice none 0 0, .slice none 0 0, .int .i64 0, .int .i64 0]) 5 72 Tryz.underlying23 hj hy0 hy1 hy2 rfl (by decide) (.slice a ts.length c) ts.length (ts.flatMap encC) rfl (O6.out.alloc _) ⟨wx.heap.size, 0, none⟩ 1 1 (encC (⟨⟨kd, ps, cs, lo, hi'⟩, ap, cp, ac, cc⟩ : CT)) rfl rfl (row_cells (Row.new wx _ 79)) (encC_one _) (by unfold maxLen; omega) (by omega) (by have := M6.out.size; simp; omega) ?_; intro v' wz hown' hgrow hnil; have OZ := Lib.hid hown'; have GZ := Lib.hid hgrow; clear hown' hgrow hnil; obtain ⟨g', cap', rfl⟩ := ownsRow_succ OZ.out)
          go_roundw
          case rel =>
            refine ⟨ts ++ [(⟨⟨kd, ps, cs, lo, hi'⟩, ap, cp, ac, cc⟩ : CT)], m', some ⟨g', 0, none⟩, cap', by rw [List.length_append]; rfl, ?_, by go_num, ?_, ?_, HQ.out, by simp, by simp; omega, ?_, ?_⟩
            · rw [clks_snoc, prodC_snoc, hP.out, Int.natCast_mul]
            · have := OZ.out
              rw [List.length_append, List.flatMap_append]
              simpa using this
            · refine ChRows.grown ((R6.out.snoc C6.out).gr ((Gr.refl _).alloc _)) GZ.out (fun B vs hB => owns_apart (O6.out.alloc _) hB (by decide))
            · rw [clks_snoc, prodC_snoc, hP.out]; exact hbp
            · exact (M6.out.alloc _).grown GZ.out (fun k e => (O6.out.lt k e).1)
          case measure => simp [intOf]
        · have hb : (cchk (clks (ts ++ [(⟨⟨kd, ps, cs, lo, hi'⟩, ap, cp, ac, cc⟩ : CT)])) != 0) = true := by simp [hq]
          rw [hb]
          clear hb hq
          go_wp2_with fail
          go_roundw
          case rel => exact ⟨ts, m', a, c, rfl, by rw [hP.out], by go_num, O6.out, R6.out, CK.out, hge, by omega, by rw [hP.out]; exact hpr, M6.out⟩
          case measure => simp [intOf]
    · obtain rfl : m = 0 := by omega
      go_wp2_with fail
      go_ret
      exact ⟨ts, _, rfl, HO.out, HR.out, CK.out, hge, by omega, by rw [hP.out]; exact hpr, HM.out⟩
end Go.Proofs.YtenehghpmnajpaaGreatDoor
/-! Contract of bringupclocks.Setting: a setting of clocks that are right. -/
set_option linter.unusedVariables false
set_option linter.unusedSimpArgs false
namespace Go.Proofs.YtenehghpmnajpaaGreatDoor
open Go.RowKit
open Classical
def MakesSet (b len : Nat) (w : World) (l : List Clk) (e : Ending) (w' : World) : Prop :=
  ∃ xs v, e = .returned v ∧ w'.ownsRow w.heap.size 3 1 v l.length (nums xs) ∧ SetOk l xs ∧ Mv b len w w'
theorem setOk_snoc {l : List Clk} {k : Nat} {xs : List Int} {x : Int} (h : SetOk (l.take k) xs) (hk : k < l.length) (h0 : 0 ≤ x) (h1 : x < l[k].choices.length) : SetOk (l.take (k + 1)) (xs ++ [x]) := by
  obtain ⟨h2, h3⟩ := h
  have hl : (l.take k).length = k := by simp; omega
  refine ⟨by rw [List.length_append, h2]; simp; omega, fun j hj hj' => ?_⟩
  have hjk : j < k + 1 := by simp at hj; omega
  by_cases e : j < k
  · have := h3 j (by rw [hl]; exact e) (by omega)
    rw [List.getElem_append_left (by omega)]
    simpa [List.getElem_take] using this
  · have e : j = k := by omega
    subst e
    have : (xs ++ [x])[j] = x := by
      rw [List.getElem_append_right (by omega)]
      simp [h2, hl]
    rw [this, List.getElem_take]
    exact ⟨h0, h1⟩
theorem setting_any (w : World) (b len base c : Nat) (a : Option Addr) (ts : List CT) (ht : Tp w b len) (hb : b < base) (ho : w.ownsRow base 79 5 (.slice a ts.length c) ts.length (ts.flatMap encC)) (hr : ChRows base w ts) (hl : ts.length ≤ 16)
    (hc : ∀ c ∈ clks ts, 1 ≤ c.choices.length) :
    Calls Tryz.prog 34 #[.pointer (some ⟨b, 0, none⟩), .slice a ts.length c] w (MakesSet b len w (clks ts)) := by
  have TT := Lib.hid ht
  have HB := Lib.hid ht.has
  have HO := Lib.hid ho
  have HR := Lib.hid hr
  have HC := Lib.hid hc
  clear ht ho hr hc
  obtain ⟨i0, hi, hz0, hz1, hz2⟩ := info_parts infoInt
  go_enter Tryz.func34, Tryz.ntmps34
  go_wp2
  go_loopw [5, 10] (fun s i wr => ∃ (k : Nat) (xs : List Int) (a' c' : _), k ≤ ts.length ∧ s = .slice a' k c' ∧ i = .int .i64 k ∧ wr.ownsRow w.heap.size 3 1 (.slice a' k c') k (nums xs) ∧ SetOk ((clks ts).take k) xs ∧ Mv b len w wr) (fun _ i _ => ts.length - (intOf i).toNat)
  case atStart => exact ⟨0, [], none, 0, Nat.zero_le _, rfl, rfl, World.ownsRow_nil _ _ _ _, ⟨rfl, fun k h => absurd h (by simp)⟩, Mv.refl TT.out⟩
  case round =>
    obtain ⟨k, xs, a', c', hk, rfl, rfl, ho, hs, hm⟩ := hrel
    have H1 := Lib.hid ho
    have HS := Lib.hid hs
    have HM := Lib.hid hm
    clear ho hs hm
    obtain ⟨wo, rfl⟩ : ∃ wo : World, wo = wr := ⟨_, rfl⟩
    by_cases hlt : k < ts.length
    · have hlt' : k < (clks ts).length := by rw [clks_len]; exact hlt
      obtain ⟨a2, c2, e2, _, sl⟩ := clks_at (HM.out.owns HO.out hb) (HR.out.mv HM.out hb) (by omega)
      cases e2
      obtain ⟨bb, o, rfl, ⟨c0, _⟩, ⟨ap, cp, c1, c1l, c1f, sp⟩, ⟨ac, cc, c3, c3l, c3f, sc⟩, ⟨c4, _⟩, c5, _⟩ := sl k hlt'
      have hch := HC.out _ (List.getElem_mem hlt')
      have hfl : (clks ts)[k].choices.length ≤ 8 := by
        have := (HR.out ts[k] (List.getElem_mem hlt)).2.2.2.2.2.1
        simpa [clks] using this
      obtain ⟨N, hN⟩ : ∃ N : Nat, Hid ((clks ts)[k].choices.length = N) := ⟨_, Lib.hid rfl⟩
      rw [hN.out] at c3 hch hfl c3l
      clear sl sp sc c1f c3f
      go_wp2_with fail
      refine (nM_any _ b len N ((HM.out.alloc _).tp TT.out) (by omega) (by omega)).mono ?_
      rintro e w2 ⟨x, rfl, ⟨x0, x1⟩, hm2⟩
      have O2 := Lib.hid (hm2.owns (H1.out.alloc _) HB.out)
      have M2 := Lib.hid ((HM.out.alloc _).trans HB.out hm2)
      clear hm2 c0 c1 c3 c4 c5 H1 HM
      go_wp2_with (at_builtin; refine wpList_append_own _ rfl _ _ 22 rfl w.heap.size 3 i0 (.int .i64 0) 1 8 Tryz.underlying22 hi hz0 hz1 hz2 rfl (by decide) (.slice a' k c') k (nums xs) rfl (O2.out.alloc _) ⟨w2.heap.size, 0, none⟩ 1 1 (nums [x]) rfl rfl (cell_one_new _ _ _) (nums_one _) (by unfold maxLen; omega) (by omega) (by have := M2.out.size; simp; omega) ?_; intro v' wz hown' hgrow hnil; have OZ := Lib.hid hown'; have GZ := Lib.hid hgrow; clear hown' hgrow hnil; obtain ⟨g', cap', rfl⟩ := ownsRow_succ OZ.out)
      go_roundw
      case rel =>
        refine ⟨k + 1, xs ++ [x], some ⟨g', 0, none⟩, cap', by omega, rfl, by go_num, ?_, setOk_snoc HS.out hlt' x0 (by rw [hN.out]; omega), (M2.out.alloc _).grown GZ.out (fun j e => (O2.out.lt j e).1)⟩
        have := OZ.out
        simpa [nums] using this
      case measure => simp [intOf]; omega
    · obtain rfl : k = ts.length := by omega
      go_wp2
      go_ret
      refine ⟨xs, _, rfl, ?_, ?_, HM.out⟩
      · rw [clks_len]; exact H1.out
      · have := HS.out
        rwa [List.take_of_length_le (by rw [clks_len]; exact Nat.le_refl _)] at this
end Go.Proofs.YtenehghpmnajpaaGreatDoor


/-! Clocks in rows of the call's own whose limits are struck. -/
set_option linter.unusedVariables false
set_option linter.unusedSimpArgs false
namespace Go.Proofs.YtenehghpmnajpaaGreatDoor
open Go.RowKit
open Classical
theorem owns_put {w : World} {base e size n g cap j : Nat} {xs : List Value} (h : w.ownsRow base e size (.slice (some ⟨g, 0, none⟩) n cap) n xs) (hj : j < n * size) (v : Value) : (w.setCell ⟨g, j, none⟩ v).ownsRow base e size (.slice (some ⟨g, 0, none⟩) n cap) n (xs.set j v) := by
  obtain ⟨h0, ⟨e1, _⟩ | ⟨g', cap', cur, e1, hb, hg, hn, hm, hs, ht⟩⟩ := h
  · cases e1
  · simp only [Value.slice.injEq, Option.some.injEq, Addr.mk.injEq, and_true, true_and] at e1
    obtain ⟨rfl, rfl⟩ := e1
    have hr : Row w g e cur.toList := hg
    have hr2 := hr.set j v
    refine ⟨by simpa using h0, .inr ⟨g, cap, (cur.toList.set j v).toArray, rfl, hb, hr2, hn, hm, by simpa using hs, ?_⟩⟩
    rw [← ht]
    simp only []
    rw [List.take_set]
theorem owns_free {w : World} {base e size n g cap : Nat} {xs : List Value} (h : w.ownsRow base e size (.slice (some ⟨g, 0, none⟩) n cap) n xs) (j : Nat) : w.frozen? ⟨g, j, none⟩ = false ∧ Has w g := by
  obtain ⟨h0, ⟨e1, _⟩ | ⟨g', cap', cur, e1, hb, hg, _⟩⟩ := h
  · cases e1
  · simp only [Value.slice.injEq, Option.some.injEq, Addr.mk.injEq, and_true, true_and] at e1
    obtain ⟨rfl, rfl⟩ := e1
    have hr : Row w g e cur.toList := hg
    exact ⟨hr.free j, hr.has⟩
theorem Mv.gr_low {w w1 w2 : World} {b len : Nat} (h : Gr w w1) (hb : w.heap.size ≤ b) (m : Mv b len w1 w2) : Gr w w2 := by
  obtain ⟨p, h0, h1, hg⟩ := m
  exact (h.setc hb).trans hg
theorem owns_slI {w : World} {base n : Nat} {v : Value} {xs : List Int} (h : w.ownsRow base 3 1 v n (nums xs)) (hw : ∀ k (hk : k < xs.length), Wide xs[k]) : ∃ a c, v = .slice a n c ∧ SlOf 1 RI w a xs := by
  obtain ⟨a, c, e, _, ho⟩ := owns_own1 h
  exact ⟨a, c, e, ho.slI hw⟩
end Go.Proofs.YtenehghpmnajpaaGreatDoor
/-! What the listed variable gives: the rate of a clock that does not run. -/
set_option linter.unusedVariables false
set_option linter.unusedSimpArgs false
namespace Go.Proofs.YtenehghpmnajpaaGreatDoor
open Go.RowKit
theorem two_of {α β : Type} {xs : List α} {f : α → β} {a b : β} (h : xs.map f = [a, b]) : ∃ y0 y1, xs = [y0, y1] ∧ f y0 = a ∧ f y1 = b := by
  rcases xs with _ | ⟨y0, _ | ⟨y1, _ | ⟨y2, xs⟩⟩⟩ <;> simp at h
  exact ⟨y0, y1, rfl, h.1, h.2⟩
theorem two_len {α : Type} {xs : List α} (h : xs.length = 2) : ∃ y0 y1, xs = [y0, y1] := by
  rcases xs with _ | ⟨y0, _ | ⟨y1, _ | ⟨y2, xs⟩⟩⟩ <;> simp at h
  exact ⟨y0, y1, rfl⟩
theorem off_of_laid {W : World} {rest : List (String × DataW Unit)} (h : laidMet Tryz.prog (("bringup/clock.off", .agg [.lit (.int .i64 0), .lit (.int .i64 1)]) :: rest) W) : OffV W := by
  obtain ⟨ps, ⟨g', t', cs, fuel, p, q, hg', ht', hvar, hd, _, _⟩, _⟩ := h
  have hg : Tryz.prog.globalNamed "bringup/clock.off" = some 0 := by kernel_rfl
  have hty : (Tryz.prog.globals[0]?).map (·.type) = some 93 := by kernel_rfl
  obtain rfl := Option.some.inj (hg.symm.trans hg')
  obtain rfl := Option.some.inj (hty.symm.trans ht')
  have hu : Tryz.prog.underlying 93 = some (.struct (Tryz.prog.fieldsOf 93)) := by kernel_rfl
  have f0 : ((Tryz.prog.fieldsOf 93)[0]?).map (fun f => (f.type, f.offset)) = some (3, 0) := by kernel_rfl
  have f1 : ((Tryz.prog.fieldsOf 93)[1]?).map (fun f => (f.type, f.offset)) = some (3, 1) := by kernel_rfl
  have hc : Tryz.prog.cellsOf 93 = 2 := by kernel_rfl
  have hci : Tryz.prog.cellsOf 3 = 1 := by kernel_rfl
  obtain ⟨xs, n, _, hx, hl, _, hf⟩ := DataW.trod_struct hu hd
  have hxs : xs.map (·.1) = [.lit (.int .i64 0), .lit (.int .i64 1)] := by
    have := congrArg Prod.fst hx
    exact (DataW.agg.inj this).symm
  obtain ⟨y0, y1, rfl, hx0, hx1⟩ := two_of hxs
  rw [hc] at hl
  obtain ⟨c0, c1, hcs⟩ := two_len hl
  have key : ∀ (i : Nat), ((Tryz.prog.fieldsOf 93)[i]?).map (fun f => (f.type, f.offset)) = some (3, i) → ∀ y, [y0, y1][i]? = some y → ∃ m, (cs.toList.drop i).take 1 = [.int .i64 m] ∧ y.1 = .lit (.int .i64 m) := by
    intro i hi y hy
    cases e : (Tryz.prog.fieldsOf 93)[i]? with
    | none => rw [e] at hi; cases hi
    | some f =>
      rw [e] at hi
      simp only [Option.map_some, Option.some.injEq, Prod.mk.injEq] at hi
      have := hf i f e
      rw [hi.1, hi.2, hci, hy] at this
      obtain ⟨m, q1, q2, _⟩ := DataW.trod_int Tryz.underlying3 this
      exact ⟨m, q1, by rw [q2]⟩
  obtain ⟨m0, a0, b0⟩ := key 0 f0 y0 rfl
  obtain ⟨m1, a1, b1⟩ := key 1 f1 y1 rfl
  rw [hcs] at a0 a1
  simp at a0 a1
  rw [hx0] at b0
  rw [hx1] at b1
  simp at b0 b1
  subst b0 b1 a0 a1
  have g0 := World.var?_cell hg hvar 0
  have g1 := World.var?_cell hg hvar 1
  have hz : ∀ i : Nat, cs[i]? = cs.toList[i]? := fun i => by simp
  rw [hz, hcs] at g0 g1
  exact ⟨by simpa using g0, by simpa using g1⟩
end Go.Proofs.YtenehghpmnajpaaGreatDoor
/-! Plain: the example of the chapter. No program in sight. -/
set_option linter.unusedVariables false
set_option linter.unusedSectionVars false
set_option linter.unusedSimpArgs false
namespace Go.Proofs.YtenehghpmnajpaaGreatDoor
open Classical
def threeL : List Clk := [⟨1, [], [24], 0, 0⟩, ⟨3, [0], [1, 4], 0, 0⟩, ⟨2, [1], [1, 4], 0, 0⟩]
def threeM : List Lmt := [⟨2, 0, 24⟩]
section
variable {cal : List Int → Bool} (h1 : cal [0, 0, 0] = true) (h2 : cal [0, 0, 1] = true) (h3 : cal [0, 1, 0] = false) (h4 : cal [0, 1, 1] = true)
include h1 h2 h3 h4
theorem three_nb0 : nbS threeL cal [0, 0, 0] = [(2, 1, [0, 0, 1])] := by
  simp [nbS, nbTo, nbRow, nbOne, threeL, List.range_succ, kOf, sOf, h1, h2, h3, h4]
theorem three_nb1 : nbS threeL cal [0, 0, 1] = [(1, 1, [0, 1, 1]), (2, 0, [0, 0, 0])] := by
  simp [nbS, nbTo, nbRow, nbOne, threeL, List.range_succ, kOf, sOf, h1, h2, h3, h4]
theorem three_nb3 : nbS threeL cal [0, 1, 1] = [(1, 0, [0, 0, 1])] := by
  simp [nbS, nbTo, nbRow, nbOne, threeL, List.range_succ, kOf, sOf, h1, h2, h3, h4]
theorem three_dist {D : List Int → Option Int} (h : DistOk threeL cal [0, 1, 1] D) : D [0, 1, 1] = some 0 ∧ D [0, 0, 1] = some 1 ∧ D [0, 0, 0] = some 2 := by
  have d0 := h.dist.zero
  have d1 : D [0, 0, 1] = some 1 := by
    obtain ⟨e, he, hle⟩ := h.dist.step [0, 1, 1] 0 (1, 0, [0, 0, 1]) d0 (by rw [three_nb3 h1 h2 h3 h4]; simp)
    have h0 := h.dist.nonneg _ _ he
    have hne : e ≠ 0 := fun q => by
      subst q
      have := h.dist.only _ he
      simp at this
    simp only at he
    rw [he]; congr 1; omega
  refine ⟨d0, d1, ?_⟩
  obtain ⟨e, he, hle⟩ := h.dist.step [0, 0, 1] 1 (2, 0, [0, 0, 0]) d1 (by rw [three_nb1 h1 h2 h3 h4]; simp)
  have h0 := h.dist.nonneg _ _ he
  simp only at he
  have hne : e ≠ 0 := fun q => by
    subst q
    have := h.dist.only _ he
    simp at this
  have hne1 : e ≠ 1 := fun q => by
    subst q
    obtain ⟨m, t, q1, q2, q3⟩ := h.dist.par _ _ he (by omega)
    have := h.dist.only m (by simpa using q1)
    subst this
    rw [three_nb3 h1 h2 h3 h4] at q2
    simp at q2
    subst q2
    simp at q3
  rw [he]; congr 1; omega
theorem three_plan {D : List Int → Option Int} (h : DistOk threeL cal [0, 1, 1] D) : planS threeL cal D [0, 0, 0] = [(2, 1), (1, 1)] := by
  obtain ⟨d0, d1, d2⟩ := three_dist h1 h2 h3 h4 h
  have z0 : dz D [0, 1, 1] = 0 := by simp [dz, d0]
  have z1 : dz D [0, 0, 1] = 1 := by simp [dz, d1]
  have z2 : dz D [0, 0, 0] = 2 := by simp [dz, d2]
  unfold planS
  rw [z2]
  show planB _ _ 2 _ = _
  simp [planB, three_nb0 h1 h2 h3 h4, three_nb1 h1 h2 h3 h4, z0, z1, z2]
end
theorem three_chk : cchk threeL = 0 := by
  refine cchk_ok ?_ ?_ (by decide) (by decide)
  · rintro (q | ⟨k, hk, q⟩)
    · simp [threeL] at q
    · have : k = 0 ∨ k = 1 ∨ k = 2 := by simp [threeL] at hk; omega
      rcases this with rfl | rfl | rfl <;> simp [threeL, BigC] at q
  · intro k hk
    refine ⟨hk, ?_⟩
    have : k = 0 ∨ k = 1 ∨ k = 2 := by simp [threeL] at hk; omega
    rcases this with rfl | rfl | rfl
    · refine ⟨fun j hj => by simp [threeL] at hj, .inl ⟨rfl, rfl, rfl, by simp [threeL]⟩, by simp [threeL, LimOk]⟩
    · refine ⟨fun j hj => ?_, .inr (.inl ⟨.inr rfl, rfl, by simp [threeL], ?_⟩), by simp [threeL, LimOk]⟩
      · have : j = 0 := by simp [threeL] at hj; omega
        subst this; simp [threeL]
      · intro j hj
        have : j = 0 ∨ j = 1 := by simp [threeL] at hj; omega
        rcases this with rfl | rfl <;> exact ⟨hj, by simp [threeL]⟩
    · refine ⟨fun j hj => ?_, .inr (.inl ⟨.inl rfl, rfl, by simp [threeL], ?_⟩), by simp [threeL, LimOk]⟩
      · have : j = 0 := by simp [threeL] at hj; omega
        subst this; simp [threeL]
      · intro j hj
        have : j = 0 ∨ j = 1 := by simp [threeL] at hj; omega
        rcases this with rfl | rfl <;> exact ⟨hj, by simp [threeL]⟩
theorem three_set {a b : Int} (ha : 0 ≤ a ∧ a ≤ 1) (hb : 0 ≤ b ∧ b ≤ 1) : SetOk threeL [0, a, b] := by
  refine ⟨rfl, fun i h1 h2 => ?_⟩
  have : i = 0 ∨ i = 1 ∨ i = 2 := by simp [threeL] at h1; omega
  rcases this with rfl | rfl | rfl <;> simp [threeL] <;> omega
theorem three_lims : threeM.length ≤ 32 ∧ ∀ j (h : j < threeM.length), LmtOk threeL threeM[j] := by
  refine ⟨by decide, fun j hj => ?_⟩
  have : j = 0 := by simp [threeM] at hj; omega
  subst this
  simp [threeM, threeL, LmtOk]
theorem tN_of {n d k : Int} (h : ¬ tmBig n d k) (ho : okFac n d k = true) : tN n d k = newN (n * (k / Int.gcd k d)) (d / Int.gcd k d) ∧ tD n d k = newD (n * (k / Int.gcd k d)) (d / Int.gcd k d) := by
  rw [tN, tD, if_pos ho, if_pos ho, tmN, tmD, if_neg h, if_neg h]; exact ⟨rfl, rfl⟩
theorem t_1 : tN 24 1 1 = 24 ∧ tD 24 1 1 = 1 := by
  have h := tN_of (n := 24) (d := 1) (k := 1) (by unfold tmBig; decide) (by decide)
  rw [h.1, h.2]; decide
theorem t_4 : tN 24 1 4 = 96 ∧ tD 24 1 4 = 1 := by
  have h := tN_of (n := 24) (d := 1) (k := 4) (by unfold tmBig; decide) (by decide)
  rw [h.1, h.2]; decide
theorem o_of (n k : Int) (n' d' : Int) (ho : okFac n 1 k = true) (hn : 0 ≤ n) (hk : 1 ≤ k) (h : newN n (1 * k) = n') (h' : newD n (1 * k) = d') : oN n 1 k = n' ∧ oD n 1 k = d' := by
  have hv := over_new n 1 k hn (by omega) hk
  rw [oN, oD, if_pos ho, if_pos ho, ← hv.2.1, ← hv.2.2]
  exact ⟨h, h'⟩
theorem o_24_1 : oN 24 1 1 = 24 ∧ oD 24 1 1 = 1 := o_of 24 1 24 1 (by decide) (by omega) (by omega) (by decide) (by decide)
theorem o_24_4 : oN 24 1 4 = 6 ∧ oD 24 1 4 = 1 := o_of 24 4 6 1 (by decide) (by omega) (by omega) (by decide) (by decide)
theorem o_96_1 : oN 96 1 1 = 96 ∧ oD 96 1 1 = 1 := o_of 96 1 96 1 (by decide) (by omega) (by omega) (by decide) (by decide)
theorem o_96_4 : oN 96 1 4 = 24 ∧ oD 96 1 4 = 1 := o_of 96 4 24 1 (by decide) (by omega) (by omega) (by decide) (by decide)
theorem rts_00 : rts threeL [0, 0, 0] = [some (24, 1), some (24, 1), some (24, 1)] := by
  simp [rts, ratesGo, threeL, stepR, chC, parC, scaleR, t_1.1, t_1.2, o_24_1.1, o_24_1.2]
theorem rts_01 : rts threeL [0, 0, 1] = [some (24, 1), some (24, 1), some (6, 1)] := by
  simp [rts, ratesGo, threeL, stepR, chC, parC, scaleR, t_1.1, t_1.2, o_24_4.1, o_24_4.2]
theorem rts_10 : rts threeL [0, 1, 0] = [some (24, 1), some (96, 1), some (96, 1)] := by
  simp [rts, ratesGo, threeL, stepR, chC, parC, scaleR, t_4.1, t_4.2, o_96_1.1, o_96_1.2]
theorem rts_11 : rts threeL [0, 1, 1] = [some (24, 1), some (96, 1), some (24, 1)] := by
  simp [rts, ratesGo, threeL, stepR, chC, parC, scaleR, t_4.1, t_4.2, o_96_4.1, o_96_4.2]
theorem own_three (R : List Rt) : ∀ i (h : i < threeL.length), ownOk (rtAt R i) threeL[i] = true := by
  intro i h
  have : i = 0 ∨ i = 1 ∨ i = 2 := by simp [threeL] at h; omega
  unfold ownOk
  rcases this with rfl | rfl | rfl <;> split <;> simp [threeL]
theorem cal_three (s : List Int) (b : Bool) (h : okIn (rtAt (rts threeL s) 2) 0 24 = b) : calS threeL threeM s = b := by
  unfold calS
  cases b with
  | true =>
    refine decide_eq_true ⟨own_three _, fun j hj => ?_⟩
    have : j = 0 := by simp [threeM] at hj; omega
    subst this
    exact h
  | false =>
    refine decide_eq_false (fun q => ?_)
    have := q.2 0 (by simp [threeM])
    have h' : okIn (rtAt (rts threeL s) 2) 0 24 = true := this
    rw [h] at h'; cases h'
theorem cal_00 : calS threeL threeM [0, 0, 0] = true := cal_three _ _ (by rw [rts_00]; decide)
theorem cal_01 : calS threeL threeM [0, 0, 1] = true := cal_three _ _ (by rw [rts_01]; decide)
theorem cal_10 : calS threeL threeM [0, 1, 0] = false := cal_three _ _ (by rw [rts_10]; decide)
theorem cal_11 : calS threeL threeM [0, 1, 1] = true := cal_three _ _ (by rw [rts_11]; decide)
end Go.Proofs.YtenehghpmnajpaaGreatDoor
/-! A new row, its block named. -/
set_option linter.unusedVariables false
set_option linter.unusedSimpArgs false
namespace Go.Proofs.YtenehghpmnajpaaGreatDoor
open Go.RowKit
theorem row_new' (w : World) (arr : Array Value) (T B : Nat) (hB : B = w.heap.size) : Row (w.alloc (.cells arr T)) B T arr.toList := by subst hB; exact Row.new w arr T
end Go.Proofs.YtenehghpmnajpaaGreatDoor

/- Contract of space.calm: whether the setting with a number is calm, and what is known then. A statement of space.calm by an invariant (printed by wip/tools/sp.py). (several texts in one, by wip/tools/merge.py) -/
import Derived.Test.YtenehghpmnajpaaGreatDoorKl
import Derived.Test.YtenehghpmnajpaaGreatDoorKk
import Derived.Test.YtenehghpmnajpaaGreatDoorKd
/-! Contract of space.calm: whether the setting with a number is calm, and what is known then. -/
set_option linter.unusedVariables false
set_option linter.unusedSimpArgs false
namespace Go.Proofs.YtenehghpmnajpaaGreatDoor
open Go.RowKit
open Classical

/-- What does not turn: right clocks, right limits, the variable off. -/
structure Env (w : World) (l : List Clk) (ms : List Lmt) (al am : Option Addr) : Prop where
  clks : SlOf 5 RClk w al l
  lmts : SlOf 3 RLmt w am ms
  off : OffV w
  chk : cchk l = 0
  lims : ms.length ≤ 32 ∧ ∀ j (h : j < ms.length), LmtOk l ms[j]
theorem Env.gr {w w' : World} {l : List Clk} {ms : List Lmt} {al am : Option Addr} (h : Env w l ms al am) (hg : Gr w w') : Env w' l ms al am :=
  ⟨clks_gr h.clks hg, lmts_gr h.lmts hg, h.off.gr hg, h.chk, h.lims⟩
abbrev spV (l : List Clk) (ms : List Lmt) (al am : Option Addr) (cl cm BK : Nat) : Value := .agg #[.slice al l.length cl, .slice am ms.length cm, .map (some BK)]
/-- Block BK is a map of which settings are calm, right as far as it goes. -/
def Kn (w : World) (BK : Nat) (l : List Clk) (cal : List Int → Bool) : Prop :=
  ∃ V : List (List Int × Bool), MapB w BK (V.map fun q => (num l q.1, q.2)) ∧ (V.map (·.1)).Nodup ∧ ∀ q ∈ V, SetOk l q.1 ∧ q.2 = cal q.1
theorem Kn.has {w : World} {BK : Nat} {l : List Clk} {cal : List Int → Bool} (h : Kn w BK l cal) : Has w BK := h.elim fun _ h => h.1.has
theorem Kn.kept {w w' : World} {BK : Nat} {l : List Clk} {cal : List Int → Bool} {row : Option Nat} (h : Kn w BK l cal) (hg : w.grownBy w' row) (hne : some BK ≠ row) : Kn w' BK l cal :=
  h.elim fun V h => ⟨V, h.1.kept hg hne, h.2⟩
theorem Kn.gr {w w' : World} {BK : Nat} {l : List Clk} {cal : List Int → Bool} (h : Kn w BK l cal) (hg : Gr w w') : Kn w' BK l cal := h.elim fun V h => ⟨V, h.1.gr hg, h.2⟩
theorem Kn.block {w w' : World} {BK : Nat} {l : List Clk} {cal : List Int → Bool} (h : Kn w BK l cal) (hb : w'.heap[BK]? = w.heap[BK]?) : Kn w' BK l cal := h.elim fun V h => ⟨V, h.1.block hb, h.2⟩
theorem wide_num {l : List Clk} {s : List Int} (hc : cchk l = 0) (hs : SetOk l s) : Wide (num l s) := by
  have := num_small hc hs
  unfold Wide; omega
theorem look_num {β : Type} {l : List Clk} {V : List (List Int × β)} {s : List Int} (hV : ∀ q ∈ V, SetOk l q.1) (hs : SetOk l s) : look (V.map fun q => (num l q.1, q.2)) (num l s) = look V s :=
  look_map (num l) V s fun q hq e => num_inj (hV q hq) hs e
theorem nodup_len {β : Type} {l : List Clk} {V : List (List Int × β)} (hn : (V.map (·.1)).Nodup) (hV : ∀ q ∈ V, SetOk l q.1) : V.length ≤ prodC l := by
  have h1 : (V.map (fun q => num l q.1)).Nodup := by
    rw [List.nodup_iff_pairwise_ne, List.pairwise_map] at hn ⊢
    exact hn.imp_of_mem fun {a b} ha hb hab e => hab (num_inj (hV a ha) (hV b hb) e)
  have := nodup_int_le h1 (n := prodC l) (fun x hx => by
    obtain ⟨q, hq, rfl⟩ := List.mem_map.1 hx
    exact num_bound (hV q hq))
  simpa using this
theorem Gr.by {w w' : World} (h : Gr w w') (row : Option Nat) : w.grownBy w' row := by
  have hb := h.below
  exact ⟨hb.os, hb.tape, hb.output, hb.size, fun k hk _ => hb.block k hk⟩
theorem setOk_wide {l : List Clk} {s : List Int} (hc : cchk l = 0) (hs : SetOk l s) : ∀ k (hk : k < s.length), Wide s[k] := fun k hk => by
  obtain ⟨nb, _, _, _⟩ := cchk_zero hc
  have hl := hs.1
  have h1 := hs.2 k (by omega) hk
  have h2 := small_at nb (k := k) (by omega)
  unfold Wide; omega
end Go.Proofs.YtenehghpmnajpaaGreatDoor

/-! A statement of space.calm by an invariant (printed by wip/tools/sp.py). -/
set_option linter.unusedVariables false
set_option linter.unusedSimpArgs false
namespace Go.Proofs.YtenehghpmnajpaaGreatDoor
open Go.RowKit
open Classical

/-- What is known of each slot as soon as its operation is done. -/
def sp3F (wr : World) (l : List Clk) (ms : List Lmt) (s : List Int) (al am : Option Addr) (cl cm BK XB : Nat) (t5 t16 t17 t18 t19 t20 t21 t22 t23 : Value) (d : Array Bool) (w : World) : Prop :=
  Gr wr w ∧ (d.getD 0 false = true → t16 = .pointer (some ⟨XB, 0, none⟩)) ∧
  (d.getD 1 false = true → t17 = .slice al l.length cl) ∧
  (d.getD 2 false = true → t18 = .agg #[.slice al l.length cl, .slice am ms.length cm, .map (some BK)]) ∧
  (d.getD 3 false = true → t19 = .int .i64 (num l s)) ∧
  (d.getD 4 false = true → (∃ SB, t20 = .slice (some ⟨SB, 0, none⟩) l.length l.length ∧ Row w SB 3 (nums s))) ∧
  (d.getD 5 false = true → t21 = .pointer (some ⟨XB, 1, none⟩)) ∧
  (d.getD 6 false = true → t22 = .slice am ms.length cm) ∧
  (d.getD 7 false = true → t23 = .bool (calS l ms s)) ∧
  (d.getD 8 false = true → t5 = .bool (calS l ms s))
/-- The frame. -/
def sp3A (l : List Clk) (s : List Int) (XB : Nat) (t5 t16 t17 t18 t19 t20 t21 t22 t23 s0 s3 s4 s6 s7 s8 s9 s10 s11 s12 s13 s14 s15 s24 s25 s26 s27 s28 : Value) : Act := { tmps := #[s0, .int .i64 (num l s), .pointer (some ⟨XB, 0, none⟩), s3, s4, t5, s6, s7, s8, s9, s10, s11, s12, s13, s14, s15, t16, t17, t18, t19, t20, t21, t22, t23, s24, s25, s26, s27, s28], defers := [] }

set_option maxRecDepth 100000 in
set_option maxHeartbeats 4000000 in
theorem sp3 {Q : Exit → Act → World → Prop} {wr : World} {l : List Clk} {ms : List Lmt} {s : List Int} {al am : Option Addr} {cl cm BK XB : Nat}  {s0 s3 s4 s5 s6 s7 s8 s9 s10 s11 s12 s13 s14 s15 s16 s17 s18 s19 s20 s21 s22 s23 s24 s25 s26 s27 s28 : Value} (RX : Row wr XB 127 [.slice al l.length cl, .slice am ms.length cm, .map (some BK)]) (he : Env wr l ms al am) (hset : SetOk l s)
    (h' : ∀ t16 t17 t18 t19 t20 t21 t22 t23 wx, Gr wr wx → Q .normal (sp3A l s XB (.bool (calS l ms s)) t16 t17 t18 t19 t20 t21 t22 t23 s0 s3 s4 s6 s7 s8 s9 s10 s11 s12 s13 s14 s15 s24 s25 s26 s27 s28) wx) :
    (Code.region 3 (regIn 3 Tryz.f87) true).wp Tryz.prog Q { tmps := #[s0, .int .i64 (num l s), .pointer (some ⟨XB, 0, none⟩), s3, s4, s5, s6, s7, s8, s9, s10, s11, s12, s13, s14, s15, s16, s17, s18, s19, s20, s21, s22, s23, s24, s25, s26, s27, s28], defers := [] } wr := by
  have HE := PLift.up he
  have HT := PLift.up hset
  have SW := PLift.up (setOk_wide he.chk hset)
  clear he hset
  simp only [regIn, Tryz.f87, regOps, Option.bind_some, Option.getD_some, Nat.beq, cond_true, cond_false]
  refine wp_region_steps (fun done a w => ∃ t5 t16 t17 t18 t19 t20 t21 t22 t23, a = sp3A l s XB t5 t16 t17 t18 t19 t20 t21 t22 t23 s0 s3 s4 s6 s7 s8 s9 s10 s11 s12 s13 s14 s15 s24 s25 s26 s27 s28 ∧ sp3F wr l ms s al am cl cm BK XB t5 t16 t17 t18 t19 t20 t21 t22 t23 done w) (by kernel_rfl) (by kernel_rfl) ?_ ⟨?_, ?_, ?_, ?_, ?_, ?_, ?_, ?_, ?_, trivial⟩ ?_
  · exact ⟨s5, s16, s17, s18, s19, s20, s21, s22, s23, rfl, (Gr.refl _).drew, fun q => absurd q (by decide), fun q => absurd q (by decide), fun q => absurd q (by decide), fun q => absurd q (by decide), fun q => absurd q (by decide), fun q => absurd q (by decide), fun q => absurd q (by decide), fun q => absurd q (by decide), fun q => absurd q (by decide)⟩
  · rintro done a w hsz hnot hdep ⟨t5, t16, t17, t18, t19, t20, t21, t22, t23, rfl, gw, f0, f1, f2, f3, f4, f5, f6, f7, f8⟩ K hK
    have hn : ¬ done.getD 0 false = true := by rw [getD_both hnot]; decide
    have HK := PLift.up hK
    clear hK 
    simp only [sp3A]
    go_simp
    have gg : Gr w w := Gr.refl _
    refine HK.down _ _ ⟨_, _, _, _, _, _, _, _, _, rfl, gw, fun _ => rfl, fun q => f1 (done_old q (by decide)), fun q => f2 (done_old q (by decide)), fun q => f3 (done_old q (by decide)), fun q => (let ⟨SB, e, h2⟩ := f4 (done_old q (by decide)); ⟨SB, e, h2.gr gg⟩), fun q => f5 (done_old q (by decide)), fun q => f6 (done_old q (by decide)), fun q => f7 (done_old q (by decide)), fun q => f8 (done_old q (by decide))⟩
  · rintro done a w hsz hnot hdep ⟨t5, t16, t17, t18, t19, t20, t21, t22, t23, rfl, gw, f0, f1, f2, f3, f4, f5, f6, f7, f8⟩ K hK
    have hn : ¬ done.getD 1 false = true := by rw [getD_both hnot]; decide
    have d0 := hdep 0 (by kernel_rfl)
    obtain rfl := f0 d0
    have r := RX.gr gw
    have c0 := r.cell 0 (by simp)
    have c1 := r.cell 1 (by simp)
    have c2 := r.cell 2 (by simp)
    have ch := r.has
    simp only [List.getElem_cons_zero, List.getElem_cons_succ] at c0 c1 c2
    clear r
    have HK := PLift.up hK
    clear hK d0
    simp only [sp3A]
    go_simp
    have gg : Gr w w := Gr.refl _
    refine HK.down _ _ ⟨_, _, _, _, _, _, _, _, _, rfl, gw, fun q => f0 (done_old q (by decide)), fun _ => rfl, fun q => f2 (done_old q (by decide)), fun q => f3 (done_old q (by decide)), fun q => (let ⟨SB, e, h2⟩ := f4 (done_old q (by decide)); ⟨SB, e, h2.gr gg⟩), fun q => f5 (done_old q (by decide)), fun q => f6 (done_old q (by decide)), fun q => f7 (done_old q (by decide)), fun q => f8 (done_old q (by decide))⟩
  · rintro done a w hsz hnot hdep ⟨t5, t16, t17, t18, t19, t20, t21, t22, t23, rfl, gw, f0, f1, f2, f3, f4, f5, f6, f7, f8⟩ K hK
    have hn : ¬ done.getD 2 false = true := by rw [getD_both hnot]; decide
    have r := RX.gr gw
    have c0 := r.cell 0 (by simp)
    have c1 := r.cell 1 (by simp)
    have c2 := r.cell 2 (by simp)
    have ch := r.has
    simp only [List.getElem_cons_zero, List.getElem_cons_succ] at c0 c1 c2
    clear r
    have HK := PLift.up hK
    clear hK 
    simp only [sp3A]
    go_simp
    have gg : Gr w w := Gr.refl _
    refine HK.down _ _ ⟨_, _, _, _, _, _, _, _, _, rfl, gw, fun q => f0 (done_old q (by decide)), fun q => f1 (done_old q (by decide)), fun _ => rfl, fun q => f3 (done_old q (by decide)), fun q => (let ⟨SB, e, h2⟩ := f4 (done_old q (by decide)); ⟨SB, e, h2.gr gg⟩), fun q => f5 (done_old q (by decide)), fun q => f6 (done_old q (by decide)), fun q => f7 (done_old q (by decide)), fun q => f8 (done_old q (by decide))⟩
  · rintro done a w hsz hnot hdep ⟨t5, t16, t17, t18, t19, t20, t21, t22, t23, rfl, gw, f0, f1, f2, f3, f4, f5, f6, f7, f8⟩ K hK
    have hn : ¬ done.getD 3 false = true := by rw [getD_both hnot]; decide
    have HK := PLift.up hK
    clear hK 
    simp only [sp3A]
    go_simp
    have gg : Gr w w := Gr.refl _
    refine HK.down _ _ ⟨_, _, _, _, _, _, _, _, _, rfl, gw, fun q => f0 (done_old q (by decide)), fun q => f1 (done_old q (by decide)), fun q => f2 (done_old q (by decide)), fun _ => rfl, fun q => (let ⟨SB, e, h2⟩ := f4 (done_old q (by decide)); ⟨SB, e, h2.gr gg⟩), fun q => f5 (done_old q (by decide)), fun q => f6 (done_old q (by decide)), fun q => f7 (done_old q (by decide)), fun q => f8 (done_old q (by decide))⟩
  · rintro done a w hsz hnot hdep ⟨t5, t16, t17, t18, t19, t20, t21, t22, t23, rfl, gw, f0, f1, f2, f3, f4, f5, f6, f7, f8⟩ K hK
    have hn : ¬ done.getD 4 false = true := by rw [getD_both hnot]; decide
    have d2 := hdep 2 (by kernel_rfl)
    have d3 := hdep 3 (by kernel_rfl)
    obtain rfl := f2 d2
    obtain rfl := f3 d3
    have HK := PLift.up hK
    clear hK d2 d3
    simp only [sp3A]
    go_simp
    refine (spSet_any l s al am cl ms.length cm (.map (some BK)) w (clks_gr HE.down.clks gw) HE.down.chk HT.down).mono ?_
    rintro e w2 ⟨SB, rfl, hr, hb, hg⟩
    have gg : Gr w w2 := hg
    clear hg hb
    (try go_simp)
    refine HK.down _ _ ⟨_, _, _, _, _, _, _, _, _, rfl, gw.trans gg, fun q => f0 (done_old q (by decide)), fun q => f1 (done_old q (by decide)), fun q => f2 (done_old q (by decide)), fun q => f3 (done_old q (by decide)), ?_, fun q => f5 (done_old q (by decide)), fun q => f6 (done_old q (by decide)), fun q => f7 (done_old q (by decide)), fun q => f8 (done_old q (by decide))⟩
    exact fun _ => ⟨SB, rfl, hr⟩
  · rintro done a w hsz hnot hdep ⟨t5, t16, t17, t18, t19, t20, t21, t22, t23, rfl, gw, f0, f1, f2, f3, f4, f5, f6, f7, f8⟩ K hK
    have hn : ¬ done.getD 5 false = true := by rw [getD_both hnot]; decide
    have HK := PLift.up hK
    clear hK 
    simp only [sp3A]
    go_simp
    have gg : Gr w w := Gr.refl _
    refine HK.down _ _ ⟨_, _, _, _, _, _, _, _, _, rfl, gw, fun q => f0 (done_old q (by decide)), fun q => f1 (done_old q (by decide)), fun q => f2 (done_old q (by decide)), fun q => f3 (done_old q (by decide)), fun q => (let ⟨SB, e, h2⟩ := f4 (done_old q (by decide)); ⟨SB, e, h2.gr gg⟩), fun _ => rfl, fun q => f6 (done_old q (by decide)), fun q => f7 (done_old q (by decide)), fun q => f8 (done_old q (by decide))⟩
  · rintro done a w hsz hnot hdep ⟨t5, t16, t17, t18, t19, t20, t21, t22, t23, rfl, gw, f0, f1, f2, f3, f4, f5, f6, f7, f8⟩ K hK
    have hn : ¬ done.getD 6 false = true := by rw [getD_both hnot]; decide
    have d5 := hdep 5 (by kernel_rfl)
    obtain rfl := f5 d5
    have r := RX.gr gw
    have c0 := r.cell 0 (by simp)
    have c1 := r.cell 1 (by simp)
    have c2 := r.cell 2 (by simp)
    have ch := r.has
    simp only [List.getElem_cons_zero, List.getElem_cons_succ] at c0 c1 c2
    clear r
    have HK := PLift.up hK
    clear hK d5
    simp only [sp3A]
    go_simp
    have gg : Gr w w := Gr.refl _
    refine HK.down _ _ ⟨_, _, _, _, _, _, _, _, _, rfl, gw, fun q => f0 (done_old q (by decide)), fun q => f1 (done_old q (by decide)), fun q => f2 (done_old q (by decide)), fun q => f3 (done_old q (by decide)), fun q => (let ⟨SB, e, h2⟩ := f4 (done_old q (by decide)); ⟨SB, e, h2.gr gg⟩), fun q => f5 (done_old q (by decide)), fun _ => rfl, fun q => f7 (done_old q (by decide)), fun q => f8 (done_old q (by decide))⟩
  · rintro done a w hsz hnot hdep ⟨t5, t16, t17, t18, t19, t20, t21, t22, t23, rfl, gw, f0, f1, f2, f3, f4, f5, f6, f7, f8⟩ K hK
    have hn : ¬ done.getD 7 false = true := by rw [getD_both hnot]; decide
    have d1 := hdep 1 (by kernel_rfl)
    have d4 := hdep 4 (by kernel_rfl)
    have d6 := hdep 6 (by kernel_rfl)
    obtain rfl := f1 d1
    obtain rfl := f6 d6
    obtain ⟨SB, rfl, hr⟩ := f4 d4
    have HR := PLift.up hr
    clear hr
    have HK := PLift.up hK
    clear hK d1 d6
    simp only [sp3A]
    go_simp
    have CC := calm_any l ms s al (some ⟨SB, 0, none⟩) am cl l.length cm w (clks_gr HE.down.clks gw) (HR.down.s.slI SW.down) (lmts_gr HE.down.lmts gw) HE.down.chk HT.down HE.down.lims (HE.down.off.gr gw)
    rw [HT.down.1] at CC
    refine CC.mono ?_
    rintro e w2 ⟨rfl, hg⟩
    have gg : Gr w w2 := hg
    clear hg
    (try go_simp)
    refine HK.down _ _ ⟨_, _, _, _, _, _, _, _, _, rfl, gw.trans gg, fun q => f0 (done_old q (by decide)), fun q => f1 (done_old q (by decide)), fun q => f2 (done_old q (by decide)), fun q => f3 (done_old q (by decide)), fun _ => ⟨SB, rfl, HR.down.gr gg⟩, fun q => f5 (done_old q (by decide)), fun q => f6 (done_old q (by decide)), fun _ => rfl, fun q => f8 (done_old q (by decide))⟩
  · rintro done a w hsz hnot hdep ⟨t5, t16, t17, t18, t19, t20, t21, t22, t23, rfl, gw, f0, f1, f2, f3, f4, f5, f6, f7, f8⟩ K hK
    have hn : ¬ done.getD 8 false = true := by rw [getD_both hnot]; decide
    have d7 := hdep 7 (by kernel_rfl)
    obtain rfl := f7 d7
    have HK := PLift.up hK
    clear hK d7
    simp only [sp3A]
    go_simp
    have gg : Gr w w := Gr.refl _
    refine HK.down _ _ ⟨_, _, _, _, _, _, _, _, _, rfl, gw, fun q => f0 (done_old q (by decide)), fun q => f1 (done_old q (by decide)), fun q => f2 (done_old q (by decide)), fun q => f3 (done_old q (by decide)), fun q => (let ⟨SB, e, h2⟩ := f4 (done_old q (by decide)); ⟨SB, e, h2.gr gg⟩), fun q => f5 (done_old q (by decide)), fun q => f6 (done_old q (by decide)), fun q => f7 (done_old q (by decide)), fun _ => rfl⟩
  · rintro done a w hall ⟨t5, t16, t17, t18, t19, t20, t21, t22, t23, rfl, gw, f0, f1, f2, f3, f4, f5, f6, f7, f8⟩
    obtain rfl := f8 (hall 8 (by decide))
    exact h' _ _ _ _ _ _ _ _ w gw
end Go.Proofs.YtenehghpmnajpaaGreatDoor

/-! Contract of space.calm: whether the setting with a number is calm, and what is known then. -/
set_option linter.unusedVariables false
set_option linter.unusedSimpArgs false
namespace Go.Proofs.YtenehghpmnajpaaGreatDoor
open Go.RowKit
open Classical

set_option maxRecDepth 100000 in
set_option maxHeartbeats 2000000 in
theorem scalm_any (l : List Clk) (ms : List Lmt) (s : List Int) (al am : Option Addr) (cl cm BK : Nat) (w : World) (henv : Env w l ms al am) (hset : SetOk l s) (hk : Kn w BK l (calS l ms)) :
    Calls Tryz.prog 87 #[spV l ms al am cl cm BK, .int .i64 (num l s)] w fun e w' => e = .returned (.bool (calS l ms s)) ∧ Kn w' BK l (calS l ms) ∧ w.grownBy w' (some BK) := by
  obtain ⟨V, hV, hn, hq⟩ := hk
  have hlk := look_num (fun q h => (hq q h).1) hset (V := V)
  have hwn := wide_num henv.chk hset
  obtain ⟨XB, hXB⟩ : ∃ XB : Nat, Hid (w.heap.size = XB) := ⟨_, Lib.hid rfl⟩
  obtain ⟨W1, hW1⟩ : ∃ W1 : World, Hid (W1 = w.alloc (.cells #[.slice al l.length cl, .slice am ms.length cm, .map (some BK)] 127)) := ⟨_, Lib.hid rfl⟩
  have G1 : Hid (Gr w W1) := Lib.hid (by rw [hW1.out]; exact (Gr.refl _).alloc _)
  have X1 : Hid (Row W1 XB 127 [.slice al l.length cl, .slice am ms.length cm, .map (some BK)]) := Lib.hid (by rw [hW1.out, ← hXB.out]; exact Row.new w _ _)
  have E1 := Lib.hid (henv.gr G1.out)
  have M1 := Lib.hid (hV.gr G1.out)
  have VN := Lib.hid hn
  have VQ := Lib.hid hq
  have HT := Lib.hid hset
  have LK := run_look_bool M1.out hwn
  rw [hlk] at LK
  have WN := Lib.hid hwn
  have HLK := Lib.hid hlk
  obtain ⟨n, en⟩ : ∃ n, num l s = n := ⟨_, rfl⟩
  have EN := Lib.hid en
  rw [en] at LK ⊢
  clear hV hn hq hset hwn hlk henv en
  cases hl : look V s with
  | some b =>
    have hb : b = calS l ms s := (VQ.out _ (look_some hl)).2
    rw [hl] at LK
    simp only [Option.getD_some, Option.isSome_some] at LK
    have HB := Lib.hid hb
    clear hb hl
    rw [hW1.out] at LK
    go_enter Tryz.func87, Tryz.ntmps87
    go_wp2_with fail
    go_ret
    exact ⟨ret_bool HB.out, (show Kn W1 BK l (calS l ms) from ⟨V, M1.out, VN.out, VQ.out⟩) |> (fun h => hW1.out ▸ h), World.grownBy_alloc _ _ _⟩
  | none =>
    rw [hl] at LK
    simp only [Option.getD_none, Option.isSome_none] at LK
    rw [hW1.out] at LK
    have HL := Lib.hid hl
    clear hl
    go_enter Tryz.func87, Tryz.ntmps87
    go_wp2_with fail
    rw [← hW1.out, hXB.out, ← EN.out]
    have x0 := X1.out.cell 0 (by simp)
    have x1 := X1.out.cell 1 (by simp)
    have x2 := X1.out.cell 2 (by simp)
    simp only [List.getElem_cons_zero, List.getElem_cons_succ] at x0 x1 x2
    have xh := X1.out.has
    refine wp_code_eq (c := Code.region 3 (regIn 3 Tryz.f87) true) (by kernel_rfl) (sp3 (wr := W1) (l := l) (ms := ms) (s := s) (al := al) (am := am) (cl := cl) (cm := cm) (BK := BK) (XB := XB) X1.out E1.out HT.out ?_)
    intro t16 t17 t18 t19 t20 t21 t22 t23 W3 hg
    simp only [sp3A]
    have x2 := (X1.out.gr hg).cell 2 (by simp)
    simp only [List.getElem_cons_zero, List.getElem_cons_succ] at x2
    have xh := (X1.out.gr hg).has
    have hlk : look (V.map fun q => (num l q.1, q.2)) (num l s) = none := by rw [HLK.out, HL.out]
    have hlen := nodup_len VN.out (fun q h => (VQ.out q h).1)
    have h4 := (cchk_zero E1.out.chk).2.2.1
    have SR := run_store_bool (M1.out.gr hg) WN.out hlk (by rw [List.length_map]; unfold maxLen; omega) (calS l ms s)
    have G3 := Lib.hid hg
    clear hg hlk hlen h4 M1
    go_wp2_with (first | (at_mapUpdate; refine wpList_mapStore _ rfl _ _ _ _ rfl rfl rfl rfl SR ?_; rintro W4 ⟨hm, hgb⟩) | fail)
    go_ret
    refine ⟨rfl, ⟨V ++ [(s, calS l ms s)], ?_, ?_, ?_⟩, ?_⟩
    · rw [List.map_append]; exact hm
    · rw [List.map_append, List.nodup_append]
      refine ⟨VN.out, by simp, ?_⟩
      intro a ha b hb e
      subst e
      have : a = s := by simpa using hb
      subst this
      exact look_none.1 HL.out ha
    · intro q hq
      rcases List.mem_append.1 hq with hq | hq
      · exact VQ.out q hq
      · have : q = (s, calS l ms s) := by simpa using hq
        subst this; exact ⟨HT.out, rfl⟩
    · exact ((G1.out.trans G3.out).by _).trans hgb
end Go.Proofs.YtenehghpmnajpaaGreatDoor

/-! What holds in the loops of space.each, whatever function it calls. -/
set_option linter.unusedVariables false
set_option linter.unusedSimpArgs false
namespace Go.Proofs.YtenehghpmnajpaaGreatDoor
open Go.RowKit
open Classical

/-- How a state lies in a world, away from some blocks. -/
abbrev Lies (σ : Type) := σ → World → List Nat → Prop
structure LiesOk {σ : Type} (I : Lies σ) : Prop where
  keep : ∀ st w w' L row, I st w L → w.grownBy w' row → (∀ b, row = some b → b ∈ L) → I st w' L
  sub : ∀ st w L L', I st w L → (∀ b ∈ L', b ∈ L) → I st w L'
/-- What the loops keep. -/
structure EI {σ : Type} (I : Lies σ) (w0 w : World) (l : List Clk) (ms : List Lmt) (al am : Option Addr) (cl cm BK XB SB : Nat) (L0 : List Nat) (st : σ) (wr : World) (u : List Int) : Prop where
  row : Row wr SB 3 (nums u)
  box : Row wr XB 127 [.slice al l.length cl, .slice am ms.length cm, .map (some BK)]
  kn : Kn wr BK l (calS l ms)
  st : I st wr (XB :: SB :: L0)
  gr : Gr w0 wr
  keep : ∀ b ∈ L0, b ≠ BK → wr.heap[b]? = w.heap[b]?
  size : w.heap.size ≤ wr.heap.size
section
variable {σ : Type} {I : Lies σ} {w0 w : World} {l : List Clk} {ms : List Lmt} {al am : Option Addr} {cl cm BK XB SB : Nat} {L0 : List Nat} {st : σ} {wr : World} {u : List Int}
theorem EI.grow {w' : World} (h : EI I w0 w l ms al am cl cm BK XB SB L0 st wr u) (hI : LiesOk I) (hL : ∀ b ∈ L0, Has w b) (hg : Gr wr w') : EI I w0 w l ms al am cl cm BK XB SB L0 st w' u where
  row := h.row.gr hg
  box := h.box.gr hg
  kn := h.kn.gr hg
  st := hI.keep _ _ _ _ none h.st (hg.by none) (fun b e => by cases e)
  gr := h.gr.trans hg
  keep := fun b hb hne => (hg.below.block b (Nat.lt_of_lt_of_le (hL b hb) h.size)).trans (h.keep b hb hne)
  size := Nat.le_trans h.size hg.size
theorem EI.set (h : EI I w0 w l ms al am cl cm BK XB SB L0 st wr u) (hI : LiesOk I) (hL : ∀ b ∈ L0, Has w b) (hs : w.heap.size ≤ SB) (hx : XB ≠ SB) (h0 : w0.heap.size ≤ SB) (hBK : BK ∈ L0) (i : Nat) (x : Int) :
    EI I w0 w l ms al am cl cm BK XB SB L0 st (wr.setCell ⟨SB, i, none⟩ (.int .i64 x)) (u.set i x) where
  row := h.row.iset i x
  box := h.box.oth (Ne.symm hx)
  kn := h.kn.kept (grownBy_set wr SB i _) (by have := hL BK hBK; unfold Has at this; intro e; injection e with e; omega)
  st := hI.keep _ _ _ _ _ h.st (grownBy_set wr SB i _) (fun b e => by injection e with e; subst e; simp)
  gr := h.gr.setc h0
  keep := fun b hb hne => ((grownBy_set wr SB i (.int .i64 x)).block b (Nat.lt_of_lt_of_le (hL b hb) h.size) (by have := hL b hb; unfold Has at this; intro e; injection e with e; omega)).trans (h.keep b hb hne)
  size := Nat.le_trans h.size (grownBy_set wr SB i (.int .i64 x)).size
theorem EI.known {w' : World} (h : EI I w0 w l ms al am cl cm BK XB SB L0 st wr u) (hI : LiesOk I) (hL : ∀ b ∈ L0, Has w b) (hs : w.heap.size ≤ SB) (hX : w.heap.size ≤ XB) (h0 : w0.heap.size ≤ BK) (hBK : BK ∈ L0) (hg : wr.grownBy w' (some BK)) (hk : Kn w' BK l (calS l ms)) :
    EI I w0 w l ms al am cl cm BK XB SB L0 st w' u where
  row := h.row.grown hg (by have := hL BK hBK; unfold Has at this; intro e; injection e with e; omega)
  box := h.box.grown hg (by have := hL BK hBK; unfold Has at this; intro e; injection e with e; omega)
  kn := hk
  st := hI.keep _ _ _ _ _ h.st hg (fun b e => by injection e with e; subst e; simp [hBK])
  gr := h.gr.grown hg (fun k e => by injection e with e; omega)
  keep := fun b hb hne => (hg.block b (Nat.lt_of_lt_of_le (hL b hb) h.size) (fun e => hne (by injection e))).trans (h.keep b hb hne)
  size := Nat.le_trans h.size hg.size
theorem EI.call {w' : World} {st' : σ} (h : EI I w0 w l ms al am cl cm BK XB SB L0 st wr u) (hI : LiesOk I) (hBK : BK ∈ L0) (h1 : I st' w' (XB :: SB :: L0)) (h2 : Gr w0 w') (h3 : ∀ b ∈ XB :: SB :: L0, w'.heap[b]? = wr.heap[b]?) (h4 : wr.heap.size ≤ w'.heap.size) :
    EI I w0 w l ms al am cl cm BK XB SB L0 st' w' u where
  row := by have := h.row; unfold Row at this ⊢; rw [h3 SB (by simp)]; exact this
  box := by have := h.box; unfold Row at this ⊢; rw [h3 XB (by simp)]; exact this
  kn := h.kn.block (h3 BK (by simp [hBK]))
  st := h1
  gr := h2
  keep := fun b hb hne => (h3 b (by simp [hb])).trans (h.keep b hb hne)
  size := Nat.le_trans h.size h4
theorem EI.hasL (h : EI I w0 w l ms al am cl cm BK XB SB L0 st wr u) (hL : ∀ b ∈ L0, Has w b) : ∀ b ∈ XB :: SB :: L0, Has wr b := by
  intro b hb
  rcases List.mem_cons.1 hb with e | hb
  · subst e; exact h.box.has
  · rcases List.mem_cons.1 hb with e | hb
    · subst e; exact h.row.has
    · exact Nat.lt_of_lt_of_le (hL b hb) h.size
end
end Go.Proofs.YtenehghpmnajpaaGreatDoor

/- Lemmas and contracts for the proof of TuningAnswers (several texts in one, printed by wip/tools/pack.py): Kw La. -/
import Derived.Test.YtenehghpmnajpaaGreatDoorTa7pj
import Derived.Laws.OwnMore
import Derived.Test.YtenehghpmnajpaaGreatDoorTa7pk
import Derived.Test.YtenehghpmnajpaaGreatDoorTa7pn
/-! Contracts for settings of no clocks: slices.Clone, and the reference's Next. -/
set_option linter.unusedVariables false
set_option linter.unusedSimpArgs false
namespace Go.Proofs.YtenehghpmnajpaaGreatDoor
open Go.RowKit
open Classical
theorem owns_empty {w : World} {base : Nat} {v : Value} (h : w.ownsRow base 3 1 v 0 []) (hn : v ≠ .slice none 0 0) : ∃ g c, v = .slice (some ⟨g, 0, none⟩) 0 c ∧ RowS w g 3 (nums []) ∧ base ≤ g := by
  obtain ⟨_, ⟨rfl, _⟩ | ⟨g, cap, cur, rfl, hb, hg, _⟩⟩ := h
  · exact absurd rfl hn
  · exact ⟨g, cap, rfl, ⟨cur.toList, by unfold Row; simpa [nums] using hg⟩, hb⟩
def GivesNew0 (w : World) (e : Ending) (w' : World) : Prop := ∃ B' c, e = .returned (.slice (some ⟨B', 0, none⟩) 0 c) ∧ NewI w [] B' w'
set_option maxRecDepth 100000 in
set_option maxHeartbeats 1000000 in
theorem clone0_any (B cs : Nat) (w : World) :
    Calls Tryz.prog 60 #[.slice (some ⟨B, 0, none⟩) 0 cs] w (GivesNew0 w) := by
  obtain ⟨i0, hi, hz0, hz1, hz2⟩ := info_parts infoInt
  have he : ∀ w : World, (binOp .eql 22 (.slice (some ⟨B, 0, none⟩) 0 cs) (.slice none 0 0)).run Tryz.prog w = .ok (.bool false) w := fun _ => rfl
  have O1 : (w.alloc (.cells #[] 3)).ownsRow w.heap.size 3 1 (.slice (some ⟨w.heap.size, 0, none⟩) 0 0) 0 [] := World.ownsRow_lit w #[] 0 (Nat.le_refl _) (by unfold maxLen; omega) rfl
  have OO := Lib.hid O1
  clear O1
  go_enter Tryz.func60, Tryz.ntmps60
  go_wp2_with (first
    | (at_builtin; refine wpList_append_own _ rfl _ _ 22 rfl w.heap.size 3 i0 (.int .i64 0) 1 8 Tryz.underlying22 hi hz0 hz1 hz2 rfl (by decide) (.slice (some ⟨w.heap.size, 0, none⟩) 0 0) 0 [] rfl OO.out ⟨B, 0, none⟩ 0 cs [] rfl rfl (fun j u hu => by simp at hu) (fun u hu => by cases hu) (by unfold maxLen; omega) (by omega) (by simp) ?_; intro v' w' hown hgrow hnil)
    | fail)
  go_ret
  obtain ⟨g, c, rfl, hr, hb⟩ := owns_empty (by simpa using hown) (fun e => by have := (hnil.1 e).1; cases this)
  exact ⟨g, c, rfl, hr, hb, ((Gr.refl _).alloc _).grown hgrow (fun k e => by simp only [Value.ownBlock, Option.map_some, Option.some.injEq] at e; omega)⟩
set_option maxRecDepth 100000 in
set_option maxHeartbeats 1000000 in
theorem next0_any (al : Option Addr) (cl B cs : Nat) (w : World) :
    Calls Tryz.prog 77 #[.slice al 0 cl, .slice (some ⟨B, 0, none⟩) 0 cs] w fun e w' => e = .returned (.tuple #[.slice none 0 0, .bool false]) ∧ Gr w w' := by
  obtain ⟨i0, hi, hz0, hz1, hz2⟩ := info_parts infoInt
  have O1 : (w.alloc (.cells #[] 3)).ownsRow w.heap.size 3 1 (.slice (some ⟨w.heap.size, 0, none⟩) 0 0) 0 [] := World.ownsRow_lit w #[] 0 (Nat.le_refl _) (by unfold maxLen; omega) rfl
  have OO := Lib.hid O1
  clear O1
  go_enter Tryz.func77, Tryz.ntmps77
  go_wp2_with (first
    | (at_builtin; refine wpList_append_own _ rfl _ _ 22 rfl w.heap.size 3 i0 (.int .i64 0) 1 8 Tryz.underlying22 hi hz0 hz1 hz2 rfl (by decide) (.slice (some ⟨w.heap.size, 0, none⟩) 0 0) 0 [] rfl OO.out ⟨B, 0, none⟩ 0 cs [] rfl rfl (fun j u hu => by simp at hu) (fun u hu => by cases hu) (by unfold maxLen; omega) (by omega) (by simp) ?_; intro v' w' hown hgrow hnil; have G2 : Hid (Gr w w') := Lib.hid (((Gr.refl _).alloc _).grown hgrow (fun k e => by simp only [Value.ownBlock, Option.map_some, Option.some.injEq] at e; omega)); clear hown hgrow hnil)
    | fail)
  refine wp_loop_rounds 1 ?_
  rw [rounds_succ]
  go_wp2_with fail
  go_ret2
  exact ⟨rfl, G2.out⟩
end Go.Proofs.YtenehghpmnajpaaGreatDoor
/-! Every number is that of a setting; contracts of Count$1, Count. -/
set_option linter.unusedVariables false
set_option linter.unusedSimpArgs false
namespace Go.Proofs.YtenehghpmnajpaaGreatDoor
open Go.RowKit
open Classical
theorem not_last {l : List Clk} {s : List Int} (hs : SetOk l s) : ∀ d j, j + d = l.length → (AllLast l s j ∨ ∃ i, j ≤ i ∧ i < l.length ∧ sOf s i + 1 < kOf l i ∧ AllLast l s (i + 1)) := by
  intro d
  induction d with
  | zero => intro j hj; exact .inl fun i h1 h2 => by omega
  | succ d ih =>
    intro j hj
    rcases ih (j + 1) (by omega) with h | ⟨i, h1, h2, h3, h4⟩
    · have hb := hs.at (i := j) (by omega)
      by_cases e : sOf s j + 1 < kOf l j
      · exact .inr ⟨j, Nat.le_refl _, by omega, e, h⟩
      · refine .inl fun i h1 h2 => ?_
        by_cases e2 : i = j
        · subst e2; omega
        · exact h i (by omega) h2
    · exact .inr ⟨i, by omega, h2, h3, h4⟩
theorem num_surj {l : List Clk} (h1 : ∀ c ∈ l, 1 ≤ c.choices.length) : ∀ n, n < prodC l → ∃ s, SetOk l s ∧ num l s = (n : Int) := by
  intro n
  induction n with
  | zero =>
    intro _
    have hz : ∀ i, sOf (List.replicate l.length 0) i = 0 := fun i => by
      unfold sOf
      rw [List.getD_eq_getElem?_getD, List.getElem?_replicate]; split <;> rfl
    refine ⟨List.replicate l.length 0, setOk_of (by rw [List.length_replicate]) (fun i hi => ?_), ?_⟩
    · rw [hz, kOf_at hi]
      have := h1 _ (List.getElem_mem hi); omega
    · have : ∀ j, numU (kOf l) (sOf (List.replicate l.length 0)) j = 0 := by
        intro j
        induction j with
        | zero => rfl
        | succ j ih => simp only [numU]; rw [ih, hz]; simp
      exact this _
  | succ n ih =>
    intro hn
    obtain ⟨s, hs, he⟩ := ih (by omega)
    rcases not_last hs l.length 0 (by omega) with h | ⟨j, _, hj, h3, h4⟩
    · have := num_last h; omega
    · exact ⟨nxS s j, nxS_ok hs hj h3 (fun i hi => by
        rw [kOf_at hi]
        have := h1 _ (List.getElem_mem hi); omega), by rw [num_nxS hs hj h4, he]; simp⟩
theorem setN_ok {l : List Clk} (h1 : ∀ c ∈ l, 1 ≤ c.choices.length) {n : Nat} (hn : n < prodC l) : SetOk l (setN l n) ∧ num l (setN l n) = (n : Int) := by
  have hx := num_surj h1 n hn
  unfold setN
  rw [dif_pos hx]
  exact Classical.choose_spec hx
/-- How many of the first settings meet. -/
noncomputable def cntK (l : List Clk) (p : List Int → Bool) (k : Nat) : Nat := (List.range k).countP fun i => p (setN l i)
noncomputable def cntS (l : List Clk) (ms : List Lmt) : Nat := cntK l (meetS l ms) (prodC l)
noncomputable def stepC (l : List Clk) (ms : List Lmt) (n : Nat) (s : List Int) : Nat := if meetS l ms s = true then n + 1 else n
theorem cntK_succ (l : List Clk) (p : List Int → Bool) (k : Nat) : cntK l p (k + 1) = cntK l p k + (if p (setN l k) = true then 1 else 0) := by
  unfold cntK
  rw [List.range_succ, List.countP_append]
  simp [List.countP_cons]
theorem cntK_le (l : List Clk) (p : List Int → Bool) (k : Nat) : cntK l p k ≤ k := by
  have := List.countP_le_length (p := fun i => p (setN l i)) (l := List.range k)
  simpa [cntK] using this
theorem stN_cnt (l : List Clk) (ms : List Lmt) (k : Nat) : stN (stepC l ms) 0 l k = cntK l (meetS l ms) k := by
  induction k with
  | zero => rfl
  | succ k ih =>
    rw [stN_succ, cntK_succ, ih]
    unfold stepC
    split <;> simp
def LieC (BN : Nat) (w0 : World) : Lie Nat := fun n w L => Row w BN 3 [.int .i64 (IntKind.i64.wrap (n : Int))] ∧ BN ∉ L ∧ w0.heap.size ≤ BN
theorem lieC_ok (BN : Nat) (w0 : World) : LieOk (LieC BN w0) where
  keep := fun st w w' L row h hg hr => ⟨h.1.grown hg (fun e => h.2.1 (hr BN e.symm)), h.2⟩
  sub := fun st w L L' h hs => ⟨h.1, fun q => h.2.1 (hs _ q), h.2.2⟩
theorem wrap_succ (n : Nat) : IntKind.i64.wrap (IntKind.i64.wrap (n : Int) + 1) = IntKind.i64.wrap ((n + 1 : Nat) : Int) := by
  simp only [IntKind.wrap_i64]; omega
theorem bits_eq0 (b : BitVec 64) : ((b.toNat : Int) == 0) = decide (b = 0) := by
  by_cases h : b = 0
  · subst h; simp
  · have : b.toNat ≠ 0 := fun q => h (BitVec.eq_of_toNat_eq (by simpa using q))
    rw [decide_eq_false h]; simp; omega
set_option maxRecDepth 100000 in
set_option maxHeartbeats 1000000 in
theorem seeC (l : List Clk) (ms : List Lmt) (BN : Nat) (w0 : World) (hb : (allB l ms).length ≤ 64) : SeeC (LieC BN w0) (stepC l ms) (fun _ => true) l ms BN w0 := by
  intro s st w L B c hs hg hI hL hB hBL
  obtain ⟨r, hn, h0⟩ := hI
  have RR := Lib.hid r
  have c0 := r.cell 0 (by simp)
  have hx := r.has
  have hf := r.free 0
  simp only [List.getElem_cons_zero] at c0
  have HM := meetS_bits l ms s hb
  have HG := Lib.hid hg
  have HL := Lib.hid hL
  have WS := Lib.hid (wrap_succ st)
  clear hs hg hL hB hBL r
  unfold vU64
  cases hm : meetS l ms s with
  | true =>
    have z : (((bitsS l ms s).toNat : Int) == 0) = true := by rw [bits_eq0, ← HM, hm]
    have ST : Hid (stepC l ms st s = st + 1) := Lib.hid (by unfold stepC; rw [if_pos hm])
    obtain ⟨X, hX⟩ : ∃ X : Int, ((bitsS l ms s).toNat : Int) = X := ⟨_, rfl⟩
    rw [hX] at z ⊢
    rw [ST.out]
    obtain ⟨N, hN⟩ : ∃ N : Int, IntKind.i64.wrap (st : Int) = N := ⟨_, rfl⟩
    rw [hN] at c0 WS
    clear hm HM ST hX
    go_enter Tryz.func63, Tryz.ntmps63
    go_wp2_with fail
    go_ret
    refine ⟨rfl, ⟨?_, hn, h0⟩, HG.out.setc h0, fun b hbL => (grownBy_set w BN 0 _).block b (HL.out b hbL) (fun e => hn (by injection e with e; rw [← e]; exact hbL)), (grownBy_set w BN 0 _).size⟩
    have e : wrap64 (N + 1) = IntKind.i64.wrap (N + 1) := by first | rfl | (rw [IntKind.wrap_i64]; unfold wrap64; omega)
    rw [← WS.out, e]
    exact RR.out.set 0 (.int .i64 (IntKind.i64.wrap (N + 1)))
  | false =>
    have z : (((bitsS l ms s).toNat : Int) == 0) = false := by rw [bits_eq0, ← HM, hm]
    have ST : Hid (stepC l ms st s = st) := Lib.hid (by unfold stepC; rw [hm]; simp)
    obtain ⟨X, hX⟩ : ∃ X : Int, ((bitsS l ms s).toNat : Int) = X := ⟨_, rfl⟩
    rw [hX] at z ⊢
    rw [ST.out]
    clear hm HM ST hX c0 hx hf
    go_enter Tryz.func63, Tryz.ntmps63
    go_wp2_with fail
    go_ret
    exact ⟨rfl, ⟨RR.out, hn, h0⟩, HG.out, fun b _ => rfl, Nat.le_refl _⟩
theorem begin17_any (l : List Clk) (ms : List Lmt) (al am : Option Addr) (cl cm : Nat) (w : World) (henv : Env w l ms al am) :
    Calls Tryz.prog 57 #[.slice al l.length cl, .slice am ms.length cm] w (Grows w (.int .i64 0)) := by
  have hl := small_len (cchk_zero henv.chk).1
  have ff : Fit l.length := by unfold Fit; omega
  have fm : Fit ms.length := by have := henv.lims.1; unfold Fit; omega
  have S0 : Hid (Calls Tryz.prog 101 #[.slice al l.length cl] w (Grows w (.int .i64 0))) := Lib.hid (by
    have := pCheck_any l al cl w henv.clks ff
    rwa [henv.chk] at this)
  have S1 : Hid (∀ W, Gr w W → Calls Tryz.prog 97 #[.slice al l.length cl, .slice am ms.length cm] W (Grows W (.bool true))) := Lib.hid fun W hW => by
    have := pLimits_any l ms al am cl cm W (clks_gr henv.clks hW) ff (lmts_gr henv.lmts hW) fm
    rwa [decide_eq_true (show LmtsOk l ms from ⟨henv.chk, henv.lims.1, henv.lims.2⟩)] at this
  clear henv ff fm
  go_enter Tryz.func57, Tryz.ntmps57
  go_wp2_with fail
  refine S0.out.mono ?_
  rintro e w1 ⟨rfl, hg1⟩
  have G1 := Lib.hid hg1
  clear hg1
  go_wp2_with fail
  refine (S1.out _ G1.out).mono ?_
  rintro e w2 ⟨rfl, hg2⟩
  have G2 := Lib.hid (G1.out.trans hg2)
  clear hg2
  go_wp2_with fail
  go_ret
  exact ⟨rfl, G2.out⟩
set_option maxRecDepth 100000 in
set_option maxHeartbeats 1000000 in
theorem count_any (l : List Clk) (ms : List Lmt) (al am : Option Addr) (cl cm : Nat) (w : World) (henv : Env w l ms al am) :
    Calls Tryz.prog 18 #[.slice al l.length cl, .slice am ms.length cm] w (Grows w (.tuple #[.int .i64 (cntS l ms : Int), .int .i64 0])) := by
  obtain ⟨_, _, prC, _⟩ := cchk_zero henv.chk
  have hl := small_len (cchk_zero henv.chk).1
  have hb : (allB l ms).length ≤ 64 := by have := allB_len l ms; have := henv.lims.1; omega
  have BG := Lib.hid (begin17_any l ms al am cl cm w henv)
  have HE := Lib.hid henv
  clear henv
  go_enter Tryz.func18, Tryz.ntmps18
  go_wp2_with fail
  refine BG.out.mono ?_
  rintro e w1 ⟨rfl, hg1⟩
  have G1 := Lib.hid hg1
  clear hg1 BG
  obtain ⟨BN, hBN⟩ : ∃ BN : Nat, Hid (w1.heap.size = BN) := ⟨_, Lib.hid rfl⟩
  obtain ⟨W2, hW2⟩ : ∃ W2 : World, Hid (W2 = (w1.alloc (.cells #[.int .i64 0] 3))) := ⟨_, Lib.hid rfl⟩
  have R2 : Hid (Row W2 BN 3 [.int .i64 0]) := Lib.hid (by rw [hW2.out, ← hBN.out]; exact Row.new w1 #[.int .i64 0] _)
  have G2 : Hid (Gr w W2) := Lib.hid (by rw [hW2.out]; exact G1.out.alloc _)
  have z2 : Hid (W2.heap.size = BN + 1) := Lib.hid (by rw [hW2.out, ← hBN.out]; simp)
  have VI' := visitC_any (LieC BN w) (stepC l ms) (fun _ => true) l ms al am cl cm BN [] w W2 0 HE.out G2.out (fun b hb => by cases hb) (lieC_ok BN w)
    (fun w' L hg hL => ⟨(R2.out.gr hg), (fun q => by
      rcases hL BN q with h | h
      · cases h
      · have := z2.out; omega), by have := hBN.out; have := G1.out.size; omega⟩) (seeC l ms BN w hb)
  have CV := Lib.hid VI'
  rw [hW2.out] at CV
  have hx := hBN.out
  clear VI' R2
  go_wp2_with fail
  refine CV.out.mono ?_
  rintro e w3 ⟨rfl, k, hk1, hk2, hI, hend, _, hg3, _, _⟩
  have hk : k = prodC l := by
    rcases hend with h | h
    · exact h
    · cases h
  subst hk
  obtain ⟨r3, _, _⟩ := hI
  rw [stN_cnt] at r3
  have hcl := cntK_le l (meetS l ms) (prodC l)
  have hw : IntKind.i64.wrap ((cntK l (meetS l ms) (prodC l) : Nat) : Int) = ((cntK l (meetS l ms) (prodC l) : Nat) : Int) := by rw [IntKind.wrap_i64]; omega
  rw [hw] at r3
  have c0 := r3.cell 0 (by simp)
  have hx3 := r3.has
  simp only [List.getElem_cons_zero] at c0
  have G3 := Lib.hid hg3
  clear r3 hg3 hw hcl CV
  go_wp2_with fail
  go_ret2
  exact ⟨rfl, G3.out⟩
end Go.Proofs.YtenehghpmnajpaaGreatDoor
/-! Contracts of Solve$1, Solve. -/
set_option linter.unusedVariables false
set_option linter.unusedSimpArgs false
namespace Go.Proofs.YtenehghpmnajpaaGreatDoor
open Go.RowKit
open Classical
noncomputable def stepS (l : List Clk) (ms : List Lmt) (o : Option (List Int)) (s : List Int) : Option (List Int) := if meetS l ms s = true then some s else o
/-- The outcome in two cells. -/
def LieS (BO BF n : Nat) (w0 : World) : Lie (Option (List Int)) := fun o w L => BO ∉ L ∧ BF ∉ L ∧ w0.heap.size ≤ BO ∧ w0.heap.size ≤ BF ∧ BO ≠ BF ∧ Row w BF 4 [.bool o.isSome] ∧
  match o with
  | none => Row w BO 22 [.slice none 0 0]
  | some s => ∃ B c, Row w BO 22 [.slice (some ⟨B, 0, none⟩) n c] ∧ RowS w B 3 (nums s) ∧ B ∉ L ∧ w0.heap.size ≤ B ∧ B ≠ BO ∧ B ≠ BF
theorem lieS_ok (BO BF n : Nat) (w0 : World) : LieOk (LieS BO BF n w0) where
  keep := fun st w w' L row h hg hr => by
    obtain ⟨a1, a2, a3, a4, a5, a6, a7⟩ := h
    refine ⟨a1, a2, a3, a4, a5, a6.grown hg (fun e => a2 (hr BF e.symm)), ?_⟩
    cases st with
    | none => exact a7.grown hg (fun e => a1 (hr BO e.symm))
    | some s =>
      obtain ⟨B, c, b1, b2, b3, b4, b5, b6⟩ := a7
      exact ⟨B, c, b1.grown hg (fun e => a1 (hr BO e.symm)), b2.grown hg (fun e => b3 (hr B e.symm)), b3, b4, b5, b6⟩
  sub := fun st w L L' h hs => by
    obtain ⟨a1, a2, a3, a4, a5, a6, a7⟩ := h
    refine ⟨fun q => a1 (hs _ q), fun q => a2 (hs _ q), a3, a4, a5, a6, ?_⟩
    cases st with
    | none => exact a7
    | some s =>
      obtain ⟨B, c, b1, b2, b3, b4, b5, b6⟩ := a7
      exact ⟨B, c, b1, b2, fun q => b3 (hs _ q), b4, b5, b6⟩
theorem LieS.cells {BO BF n : Nat} {w0 w : World} {o : Option (List Int)} {L : List Nat} (h : LieS BO BF n w0 o w L) : ∃ x, Row w BO 22 [x] := by
  obtain ⟨_, _, _, _, _, _, a7⟩ := h
  cases o with
  | none => exact ⟨_, a7⟩
  | some s => obtain ⟨B, c, b1, _⟩ := a7; exact ⟨_, b1⟩
set_option maxRecDepth 100000 in
set_option maxHeartbeats 1000000 in
theorem seeS (l : List Clk) (ms : List Lmt) (BO BF : Nat) (w0 : World) (hb : (allB l ms).length ≤ 64) (hc : cchk l = 0) : SeeS (LieS BO BF l.length w0) (stepS l ms) (fun o => !o.isSome) l ms BO BF w0 := by
  intro s st w L B c hs hg hI hL hB hBL
  have hl := small_len (cchk_zero hc).1
  have HM := meetS_bits l ms s hb
  have HG := Lib.hid hg
  have HL := Lib.hid hL
  have HII := Lib.hid hI
  unfold vU64
  cases hm : meetS l ms s with
  | true =>
    have z : (((bitsS l ms s).toNat : Int) == 0) = true := by rw [bits_eq0, ← HM, hm]
    have ST : Hid (stepS l ms st s = some s) := Lib.hid (by unfold stepS; rw [if_pos hm])
    obtain ⟨X, hX⟩ : ∃ X : Int, ((bitsS l ms s).toNat : Int) = X := ⟨_, rfl⟩
    rw [hX] at z ⊢
    rw [ST.out]
    have CL : Hid (Calls Tryz.prog 60 #[.slice (some ⟨B, 0, none⟩) l.length c] w fun e w' => ∃ B c, e = .returned (.slice (some ⟨B, 0, none⟩) l.length c) ∧ NewI w s B w') := Lib.hid (by
      rcases Nat.eq_zero_or_pos l.length with e | e
      · have hs0 : s = [] := List.eq_nil_of_length_eq_zero (by rw [hs.1]; exact e)
        subst hs0
        rw [e]
        exact clone0_any B c w
      · have := clone_any s (some ⟨B, 0, none⟩) c w (hB.s.slI (setOk_wide hc hs)) (by rw [hs.1]; exact e) (by rw [hs.1]; exact hl)
        rwa [hs.1] at this)
    obtain ⟨x0, RO⟩ := hI.cells
    have RF := hI.2.2.2.2.2.1
    have n1 := hI.1
    have n2 := hI.2.1
    have z1 := hI.2.2.1
    have z2 := hI.2.2.2.1
    have z3 : ¬ (BO = BF) := hI.2.2.2.2.1
    have z4 : ¬ (BF = BO) := fun e => z3 e.symm
    have RO' := Lib.hid RO
    have RF' := Lib.hid RF
    clear hm HM ST hX hI hs hg hL hB RO RF
    go_enter Tryz.func59, Tryz.ntmps59
    go_wp2_with fail
    refine CL.out.mono ?_
    rintro e w1 ⟨B1, c1, rfl, hr, hb1, hg1⟩
    have RO1 := Lib.hid (RO'.out.gr hg1)
    have RF1 := Lib.hid (RF'.out.gr hg1)
    have o0 := RO1.out.cell 0 (by simp)
    have of := RO1.out.free 0
    have oh := RO1.out.has
    have f0 := RF1.out.cell 0 (by simp)
    have ff := RF1.out.free 0
    have fh := RF1.out.has
    simp only [List.getElem_cons_zero] at o0 f0
    have NR := Lib.hid hr
    have NB := Lib.hid hb1
    have G1 := Lib.hid hg1
    clear hr hb1 hg1 CL
    go_wp2_with fail
    go_ret
    have hBO : BO < w.heap.size := RO'.out.has
    have hBF : BF < w.heap.size := RF'.out.has
    have g1 := grownBy_set w1 BO 0 (.slice (some ⟨B1, 0, none⟩) l.length c1)
    have g2 := grownBy_set (w1.setCell ⟨BO, 0, none⟩ (.slice (some ⟨B1, 0, none⟩) l.length c1)) BF 0 (.bool true)
    refine ⟨rfl, ⟨n1, n2, z1, z2, z3, (RF1.out.oth z3).set 0 _, B1, c1, (RO1.out.set 0 _).oth z4, ?_, ?_, ?_, ?_, ?_⟩, ?_, ?_, ?_⟩
    · exact (NR.out.oth (by have := NB.out; omega)).oth (by have := NB.out; omega)
    · exact fun q => by have := HL.out B1 q; have := NB.out; unfold Has at *; omega
    · have := HG.out.size; have := NB.out; omega
    · have := NB.out; omega
    · have := NB.out; omega
    · exact ((HG.out.trans G1.out).setc z1).setc z2
    · intro b hb
      have hbw : b < w.heap.size := HL.out b hb
      have hb1 : b < w1.heap.size := Nat.lt_of_lt_of_le hbw G1.out.size
      rw [g2.block b (Nat.lt_of_lt_of_le hb1 g1.size) (fun e => n2 (by injection e with e; rw [← e]; exact hb)), g1.block b hb1 (fun e => n1 (by injection e with e; rw [← e]; exact hb))]
      exact G1.out.below.block b hbw
    · exact Nat.le_trans G1.out.size (Nat.le_trans g1.size g2.size)
  | false =>
    have z : (((bitsS l ms s).toNat : Int) == 0) = false := by rw [bits_eq0, ← HM, hm]
    have ST : Hid (stepS l ms st s = st) := Lib.hid (by unfold stepS; rw [hm]; simp)
    obtain ⟨X, hX⟩ : ∃ X : Int, ((bitsS l ms s).toNat : Int) = X := ⟨_, rfl⟩
    rw [hX] at z ⊢
    rw [ST.out]
    have RF := hI.2.2.2.2.2.1
    have f0 := RF.cell 0 (by simp)
    have fh := RF.has
    simp only [List.getElem_cons_zero] at f0
    obtain ⟨o, ho⟩ : ∃ o, st.isSome = o := ⟨_, rfl⟩
    rw [ho] at f0
    have HO := Lib.hid ho
    clear hm HM ST hX hI RF ho hs hg hL hB
    go_enter Tryz.func59, Tryz.ntmps59
    go_wp2_with fail
    go_ret
    exact ⟨by rw [HO.out]; rfl, HII.out, HG.out, fun b _ => rfl, Nat.le_refl _⟩
/-- The least setting that meets limits, or none. -/
def GivesSolve (w : World) (l : List Clk) (ms : List Lmt) (e : Ending) (w' : World) : Prop :=
  Gr w w' ∧ ((∃ s B c, SetOk l s ∧ meetS l ms s = true ∧ (∀ s', SetOk l s' → num l s' < num l s → meetS l ms s' = false) ∧ e = .returned (.tuple #[.slice (some ⟨B, 0, none⟩) l.length c, .int .i64 0]) ∧ RowS w' B 3 (nums s) ∧ w.heap.size ≤ B) ∨
    ((∀ s, SetOk l s → meetS l ms s = false) ∧ e = .returned (.tuple #[.slice none 0 0, .int .i64 9])))
theorem stN_solve {l : List Clk} {ms : List Lmt} {k : Nat} (h : ∀ j, 1 ≤ j → j < k → (stN (stepS l ms) none l j).isSome = false) (hk : 1 ≤ k) :
    (∀ j, j + 1 < k → meetS l ms (setN l j) = false) ∧ stN (stepS l ms) none l k = if meetS l ms (setN l (k - 1)) = true then some (setN l (k - 1)) else none := by
  have n0 : ∀ j, j < k → stN (stepS l ms) none l j = none := fun j hj => by
    rcases Nat.eq_zero_or_pos j with e | e
    · subst e; rfl
    · have := h j e hj
      simpa using this
  constructor
  · intro j hj
    have h1 := n0 (j + 1) hj
    rw [stN_succ, n0 j (by omega)] at h1
    unfold stepS at h1
    cases hm : meetS l ms (setN l j) with
    | false => rfl
    | true => rw [hm] at h1; simp at h1
  · obtain ⟨j, rfl⟩ : ∃ j, k = j + 1 := ⟨k - 1, by omega⟩
    rw [stN_succ, n0 j (by omega)]
    rfl
set_option maxRecDepth 100000 in
set_option maxHeartbeats 1000000 in
theorem solve_any (l : List Clk) (ms : List Lmt) (al am : Option Addr) (cl cm : Nat) (w : World) (henv : Env w l ms al am) :
    Calls Tryz.prog 16 #[.slice al l.length cl, .slice am ms.length cm] w (GivesSolve w l ms) := by
  obtain ⟨_, okC, prC, _⟩ := cchk_zero henv.chk
  have hl := small_len (cchk_zero henv.chk).1
  have hb : (allB l ms).length ≤ 64 := by have := allB_len l ms; have := henv.lims.1; omega
  have BG := Lib.hid (begin17_any l ms al am cl cm w henv)
  have HE := Lib.hid henv
  have HC1 := Lib.hid (allOk_cho okC)
  clear henv okC
  go_enter Tryz.func16, Tryz.ntmps16
  go_wp2_with fail
  refine BG.out.mono ?_
  rintro e w1 ⟨rfl, hg1⟩
  have G1 := Lib.hid hg1
  clear hg1 BG
  go_wp2_with fail
  obtain ⟨BO, hBO⟩ : ∃ BO : Nat, Hid (w1.heap.size = BO) := ⟨_, Lib.hid rfl⟩
  obtain ⟨W2, hW2⟩ : ∃ W2 : World, Hid (W2 = ((w1.alloc (.cells #[.slice none 0 0] 22)).alloc (.cells #[.bool false] 4))) := ⟨_, Lib.hid rfl⟩
  have RO : Hid (Row W2 BO 22 [.slice none 0 0]) := Lib.hid (by rw [hW2.out, ← hBO.out]; exact (Row.new w1 #[.slice none 0 0] _).gr ((Gr.refl _).alloc _))
  have RF : Hid (Row W2 (BO + 1) 4 [.bool false]) := Lib.hid (by
    rw [hW2.out, ← hBO.out]
    have := Row.new (w1.alloc (.cells #[.slice none 0 0] 22)) #[.bool false] 4
    have e : (w1.alloc (.cells #[.slice none 0 0] 22)).heap.size = w1.heap.size + 1 := by simp
    rw [e] at this
    exact this)
  have G2 : Hid (Gr w W2) := Lib.hid (by rw [hW2.out]; exact (G1.out.alloc _).alloc _)
  have z2 : Hid (W2.heap.size = BO + 2) := Lib.hid (by rw [hW2.out, ← hBO.out]; simp)
  have wb : Hid (w.heap.size ≤ BO) := Lib.hid (by have := hBO.out; have := G1.out.size; omega)
  have CV := Lib.hid (visitS_any (LieS BO (BO + 1) l.length w) (stepS l ms) (fun o => !o.isSome) l ms al am cl cm BO (BO + 1) [] w W2 none HE.out G2.out (fun b hb => by cases hb) (lieS_ok BO (BO + 1) l.length w)
    (fun w' L hg hL => ⟨(fun q => by
      rcases hL BO q with h | h
      · cases h
      · have := z2.out; omega), (fun q => by
      rcases hL (BO + 1) q with h | h
      · cases h
      · have := z2.out; omega), wb.out, by have := wb.out; omega, by omega, RF.out.gr hg, RO.out.gr hg⟩) (seeS l ms BO (BO + 1) w hb HE.out.chk))
  rw [hBO.out]
  rw [hW2.out] at CV
  clear RO RF
  refine CV.out.mono ?_
  rintro e w3 ⟨rfl, k, hk1, hk2, hI, hend, hmore, hg3, _, _⟩
  obtain ⟨hno, hval⟩ := stN_solve (fun j h1 h2 => by have := hmore j h1 h2; simpa using this) hk1
  obtain ⟨sok, snum⟩ := setN_ok HC1.out (n := k - 1) (by omega)
  rw [hval] at hI hend
  obtain ⟨s, hs⟩ : ∃ s, setN l (k - 1) = s := ⟨_, rfl⟩
  rw [hs] at hI hend sok snum
  have G3 := Lib.hid hg3
  have SOK := Lib.hid sok
  have SNUM := Lib.hid snum
  have HNO := Lib.hid hno
  clear hmore hno hval hg3 hs sok snum CV
  obtain ⟨_, _, _, _, hne, rf, hcell⟩ := hI
  have f0 := rf.cell 0 (by simp)
  have fh := rf.has
  simp only [List.getElem_cons_zero] at f0
  cases hm : meetS l ms s with
  | true =>
    rw [hm] at hcell f0
    simp only [if_true, Option.isSome_some] at hcell f0
    obtain ⟨B, c, rb, rs, _, hbb, _, _⟩ := hcell
    have o0 := rb.cell 0 (by simp)
    have oh := rb.has
    simp only [List.getElem_cons_zero] at o0
    have RS := Lib.hid rs
    have HM := Lib.hid hm
    clear rb rs hm rf
    go_wp2_with fail
    go_ret2
    refine ⟨G3.out, .inl ⟨s, B, c, SOK.out, HM.out, fun s' h1 h2 => ?_, rfl, RS.out, hbb⟩⟩
    have hb' := num_bound h1
    have := HNO.out (num l s').toNat (by have := SNUM.out; omega)
    rwa [setN_eq h1 (by omega)] at this
  | false =>
    rw [hm] at hcell f0 hend
    simp only [if_neg (show ¬ (false = true) by decide), Option.isSome_none] at hcell f0 hend
    have HM := Lib.hid hm
    have HE2 : Hid (k = prodC l) := Lib.hid (by
      rcases hend with h | h
      · exact h
      · cases h)
    clear hcell hm rf hend
    go_wp2_with fail
    go_ret2
    refine ⟨G3.out, .inr ⟨fun s' h1 => ?_, rfl⟩⟩
    have hb' := num_bound h1
    by_cases e : (num l s').toNat = k - 1
    · have : s' = s := num_inj h1 SOK.out (by rw [SNUM.out]; omega)
      rw [this]; exact HM.out
    · have := HNO.out (num l s').toNat (by have := HE2.out; omega)
      rwa [setN_eq h1 (by omega)] at this
end Go.Proofs.YtenehghpmnajpaaGreatDoor
/-! Plain: counts and least settings, also under other limits. No program in sight. -/
set_option linter.unusedVariables false
set_option linter.unusedSimpArgs false
namespace Go.Proofs.YtenehghpmnajpaaGreatDoor
open Go.RowKit
open Classical
theorem cntK_zero (l : List Clk) (p : List Int → Bool) (k : Nat) : cntK l p k = 0 ↔ ∀ j, j < k → p (setN l j) = false := by
  unfold cntK
  rw [List.countP_eq_zero]
  constructor
  · intro h j hj
    have := h j (List.mem_range.2 hj)
    simpa using this
  · intro h j hj
    rw [h j (List.mem_range.1 hj)]; simp
theorem cntK_none {l : List Clk} {p : List Int → Bool} {k : Nat} (h : ∀ s, SetOk l s → p s = false) (h1 : ∀ c ∈ l, 1 ≤ c.choices.length) (hk : k ≤ prodC l) : cntK l p k = 0 :=
  (cntK_zero l p k).2 fun j hj => h _ (setN_ok h1 (by omega)).1
theorem cntK_some {l : List Clk} {p : List Int → Bool} {s : List Int} {k : Nat} (hs : SetOk l s) (hp : p s = true) (hk : num l s < (k : Int)) : cntK l p k ≠ 0 := fun h => by
  have hb := num_bound hs
  have := (cntK_zero l p k).1 h (num l s).toNat (by omega)
  rw [setN_eq hs (by omega), hp] at this
  cases this
/-- The least setting that meets limits. -/
def LeastS (l : List Clk) (ms : List Lmt) (s : List Int) : Prop := SetOk l s ∧ meetS l ms s = true ∧ ∀ s', SetOk l s' → num l s' < num l s → meetS l ms s' = false
theorem LeastS.unique {l : List Clk} {ms ms' : List Lmt} {s t : List Int} (hs : LeastS l ms s) (ht : LeastS l ms' t) (h : ∀ x, meetS l ms x = meetS l ms' x) : s = t := by
  obtain ⟨a1, a2, a3⟩ := hs
  obtain ⟨b1, b2, b3⟩ := ht
  refine num_inj a1 b1 ?_
  rcases Int.lt_trichotomy (num l s) (num l t) with q | q | q
  · have := b3 s a1 q
    rw [← h, a2] at this; cases this
  · exact q
  · have := a3 t b1 q
    rw [h, b2] at this; cases this
theorem LeastS.first {l : List Clk} {ms : List Lmt} {s t : List Int} {k : Nat} (hs : LeastS l ms s) (ht : SetOk l t) (hk : num l t = (k : Int)) (hz : cntK l (meetS l ms) k = 0) (hm : meetS l ms t = true) : s = t := by
  obtain ⟨a1, a2, a3⟩ := hs
  refine num_inj a1 ht ?_
  rcases Int.lt_trichotomy (num l s) (num l t) with q | q | q
  · exact absurd hz (cntK_some a1 a2 (by omega))
  · exact q
  · have := a3 t ht q
    rw [hm] at this; cases this
theorem meetR_mem (R : List Rt) (l : List Clk) (ms : List Lmt) : MeetR R l ms ↔ OwnR R l ∧ ∀ x ∈ ms, okIn (rtAt R x.clock.toNat) x.low x.high = true :=
  ⟨fun h => ⟨h.1, fun x hx => by
    obtain ⟨j, hj, rfl⟩ := List.mem_iff_getElem.1 hx
    exact h.2 j hj⟩, fun h => ⟨h.1, fun j hj => h.2 _ (List.getElem_mem hj)⟩⟩
theorem meetS_true {l : List Clk} {ms : List Lmt} {s : List Int} : meetS l ms s = true ↔ OwnR (rts l s) l ∧ ∀ x ∈ ms, okIn (rtAt (rts l s) x.clock.toNat) x.low x.high = true := by
  rw [meetS_eq, decide_eq_true_iff, meetR_mem]
end Go.Proofs.YtenehghpmnajpaaGreatDoor

/-! Contract of the refuter's branch. -/
set_option linter.unusedVariables false
set_option linter.unusedSimpArgs false
namespace Go.Proofs.YtenehghpmnajpaaGreatDoor
open Go.RowKit
open Classical
theorem infoBrn : (Tryz.prog.info? 81).map (fun i => (i.zero, i.size, i.bytes)) = some (some (.agg #[.int .i64 0, .int .i64 0, .slice none 0 0]), 3, 40) := by kernel_rfl
/-- Branches were added. -/
def AddsB (l : List Clk) (ms : List Lmt) (w0 : World) (RB : Nat) (v1 v2 : Value) (xs : List (Brn × Option Addr × Nat)) (R : List Brn) (w : World) (e : Ending) (w' : World) : Prop :=
  e = .returned (.int .i64 (xs.length : Int)) ∧ ∃ A cap ys, RefAt w0.heap.size w' RB v1 v2 A cap (xs ++ ys) ∧ ys.map (·.1) = R ∧ (∀ b ∈ ys, ∀ B, b.1.next ≠ [] → b.2.1 = some ⟨B, 0, none⟩ → w.heap.size ≤ B) ∧ Gr w0 w' ∧ KeepI w w'
theorem kidsGo_mono (f : List Int → Nat → List Brn) (p : List Int) (nx a : Nat) {i j : Nat} (h : i ≤ j) : (kidsGo f p nx a i).1.length ≤ (kidsGo f p nx a j).1.length := by
  induction j with
  | zero => have : i = 0 := by omega
            subst this; exact Nat.le_refl _
  | succ j ih =>
    by_cases e : i = j + 1
    · subst e; exact Nat.le_refl _
    · have := ih (by omega)
      simp only [kidsGo, List.length_append]; omega
theorem one_brn (x y : Int) : ∀ u ∈ ([.int .i64 x, .int .i64 y, .slice none 0 0] : List Value), u.oneCell' = true := by
  intro u hu
  simp only [List.mem_cons, List.not_mem_nil, or_false] at hu
  rcases hu with rfl | rfl | rfl <;> rfl
/-- One more branch, without a list. -/
theorem RefAt.more {base : Nat} {w W3 W4 : World} {RB : Nat} {v1 v2 : Value} {A A4 : Option Addr} {cap c4 : Nat} {xs : List (Brn × Option Addr × Nat)} (x y : Int) (h : RefAt base W3 RB v1 v2 A cap xs)
    (hown : W4.ownsRow base 81 3 (.slice A4 (xs.length + 1) c4) (xs.length + 1) (xs.flatMap encN ++ [.int .i64 x, .int .i64 y, .slice none 0 0])) (hgrow : W3.grownBy W4 (Value.slice A xs.length cap).ownBlock) (hw : w.heap.size ≤ W3.heap.size) (hk : KeepI w W3) :
    RefAt base (W4.setCell ⟨RB, 2, none⟩ (.slice A4 (xs.length + 1) c4)) RB v1 v2 A4 c4 (xs ++ [(⟨x, y, []⟩, none, 0)]) ∧ KeepI w (W4.setCell ⟨RB, 2, none⟩ (.slice A4 (xs.length + 1) c4)) := by
  have hne : ∀ B vs, RowS W3 B 3 vs → some B ≠ (Value.slice A xs.length cap).ownBlock := fun B vs r => owns_apart h.own r (by decide)
  have r4 := h.row.grown hgrow (owns_apart h.own h.row.s (by decide))
  have k4 : KeepI W3 W4 := (KeepI.refl W3).other hgrow hne
  have r5 := r4.set 2 (.slice A4 (xs.length + 1) c4)
  refine ⟨⟨?_, ?_, ?_, h.low⟩, (hk.trans k4).setc r4.s (by decide)⟩
  · simpa using r5
  · have := owns_set hown (B := RB) (o := 2) (x := .slice A4 (xs.length + 1) c4) r4.s (by decide)
    simpa [encN] using this
  · intro b hb
    rcases List.mem_append.1 hb with hb | hb
    · have := (h.nxt b hb)
      exact ⟨((k4.setc r4.s (by decide)).own1 this.1), this.2⟩
    · have : b = (⟨x, y, []⟩, none, 0) := by simpa using hb
      subst this
      exact ⟨.inl rfl, Nat.le_refl _⟩
/-- The list of a branch is stored. -/
theorem refAt_fill {base : Nat} {w : World} {RB : Nat} {v1 v2 : Value} {g cap : Nat} {xs ys : List (Brn × Option Addr × Nat)} {m : Brn × Option Addr × Nat} (h : RefAt base w RB v1 v2 (some ⟨g, 0, none⟩) cap (xs ++ m :: ys)) (nx : List Int) (a : Option Addr) (c : Nat) (hn : Own1 base w 3 (nums nx) a) (hc : nx.length ≤ c) :
    RefAt base (w.setCell ⟨g, xs.length * 3 + 2, none⟩ (.slice a nx.length c)) RB v1 v2 (some ⟨g, 0, none⟩) cap (xs ++ (⟨m.1.limit, m.1.clock, nx⟩, a, c) :: ys) ∧ KeepI w (w.setCell ⟨g, xs.length * 3 + 2, none⟩ (.slice a nx.length c)) := by
  obtain ⟨_, _, e, _, o1⟩ := owns_ownN h.own
  cases e
  rcases o1 with o1 | ⟨B, e1, hB, o1⟩
  · simp [encN] at o1
  · cases e1
    have k := (KeepI.refl w).setc (o := xs.length * 3 + 2) (v := .slice a nx.length c) o1 (by decide)
    have p := owns_put h.own (j := xs.length * 3 + 2) (by simp; omega) (.slice a nx.length c)
    rw [encN_set (xs ++ m :: ys) xs.length (by simp) nx a c] at p
    have es : (xs ++ m :: ys).set xs.length (⟨((xs ++ m :: ys)[xs.length]'(by simp)).1.limit, ((xs ++ m :: ys)[xs.length]'(by simp)).1.clock, nx⟩, a, c) = xs ++ (⟨m.1.limit, m.1.clock, nx⟩, a, c) :: ys := by simp
    rw [es] at p
    have el : (xs ++ m :: ys).length = (xs ++ ((⟨m.1.limit, m.1.clock, nx⟩, a, c) : Brn × Option Addr × Nat) :: ys).length := by simp
    refine ⟨⟨?_, ?_, ?_, h.low⟩, k⟩
    · rw [← el]; exact h.row.oth (RowS.apart o1 h.row.s (by decide))
    · rw [← el]; exact p
    · intro b hb
      rcases List.mem_append.1 hb with hb | hb
      · exact ⟨k.own1 (h.nxt b (List.mem_append_left _ hb)).1, (h.nxt b (List.mem_append_left _ hb)).2⟩
      · rcases List.mem_cons.1 hb with e | hb
        · subst e; exact ⟨k.own1 hn, hc⟩
        · have hm := List.mem_append_right xs (List.mem_cons_of_mem m hb)
          exact ⟨k.own1 (h.nxt b hm).1, (h.nxt b hm).2⟩
set_option maxRecDepth 100000 in
set_option maxHeartbeats 4000000 in
theorem branch_any (l : List Clk) (ms : List Lmt) (w0 : World) (al am ab : Option Addr) (cl cm cb RB : Nat) (henv : Env w0 l ms al am) (hb0 : SlOf 5 RBnd w0 ab (allB l ms)) (h1 : 1 ≤ l.length) :
    ∀ g p, PrtOk l p → opens p < g → NoExt l ms p → ∀ w A cap xs SB cs, Gr w0 w → RefAt w0.heap.size w RB (.slice al l.length cl) (.slice ab (allB l ms).length cb) A cap xs → RowS w SB 3 (nums p) → xs.length + (refB l ms g p xs.length).length ≤ 100000 →
      Calls Tryz.prog 68 #[.pointer (some ⟨RB, 0, none⟩), .slice (some ⟨SB, 0, none⟩) l.length cs] w (AddsB l ms w0 RB (.slice al l.length cl) (.slice ab (allB l ms).length cb) xs (refB l ms g p xs.length) w) := by
  obtain ⟨nb, _, _, _⟩ := cchk_zero henv.chk
  have hl := small_len nb
  have hml := henv.lims.1
  have HE := Lib.hid henv
  have HB0 := Lib.hid hb0
  have BL : Hid ((allB l ms).length ≤ 48) := Lib.hid (by have := allB_len l ms; omega)
  have BO := Lib.hid (allB_ok (l := l) (ms := ms) henv.lims)
  have NB := Lib.hid nb
  clear henv hb0 nb
  intro g
  induction g with
  | zero => intro p _ ho; omega
  | succ g ih =>
    intro p hp ho hn w A cap xs SB cs hg hr hs hsz
    have IH := Lib.hid ih
    have HP := Lib.hid hp
    have HO := Lib.hid ho
    have HN := Lib.hid hn
    have HG := Lib.hid hg
    have HR := Lib.hid hr
    have HS := Lib.hid hs
    have SZ := Lib.hid hsz
    obtain ⟨i0, hi, hz0, hz1, hz2⟩ := info_parts infoBrn
    obtain ⟨k0, hki, ky0, ky1, ky2⟩ := info_parts infoInt
    have lp : p.length = l.length := hp.1
    have wp := hp.wide HE.out.chk
    have JD : Hid (∀ W, Gr w W → Calls Tryz.prog 112 #[.slice al l.length cl, .slice ab (allB l ms).length cb, .slice (some ⟨SB, 0, none⟩) l.length cs] W (Grows W (.tuple #[.int .i64 (judge l ms p).1, .int .i64 (judge l ms p).2]))) := Lib.hid fun W hW => by
      have := judge_any l (allB l ms) p al ab (some ⟨SB, 0, none⟩) cl cb cs W HE.out.chk hp (clks_gr HE.out.clks (hg.trans hW)) (HB0.out.gr RBnd.mono (hg.trans hW)) ((hs.gr hW).slI wp) BO.out BL.out
      rwa [lp] at this
    have JI := judge_is HE.out.chk HE.out.lims hp hn
    obtain ⟨jl, jn, ej⟩ : ∃ jl jn, judge l ms p = (jl, jn) := ⟨_, _, rfl⟩
    rw [ej] at JD
    simp only at JD
    have r0 := hr.row.cell 0 (by simp)
    have r1 := hr.row.cell 1 (by simp)
    have r2 := hr.row.cell 2 (by simp)
    have rh := hr.row.has
    simp only [List.getElem_cons_zero, List.getElem_cons_succ] at r0 r1 r2
    have xl : xs.length ≤ 100000 := by omega
    rcases JI with ⟨b, _, _, e, hx0⟩ | ⟨f, e, hf, hof⟩
    · rw [e] at ej
      injection ej with e1 e2
      subst e1 e2
      have RBe : Hid (refB l ms (g + 1) p xs.length = [⟨b.index, 0, []⟩]) := Lib.hid (by rw [refB, e, if_pos hx0])
      have bx : decide (0 ≤ b.index) = true := decide_eq_true hx0
      rw [RBe.out]
      clear ih hp ho hn hg hr hs hsz wp lp IH HN HO SZ e hx0 RBe
      go_enter Tryz.func68, Tryz.ntmps68
      go_wp2_with fail
      refine wp_region_grows (by kernel_rfl) (by kernel_rfl) ?_
      repeat (go_big_quiet_step (first | (go_at_call 112; exact calls_grows (JD.out _ ((Gr.refl _).xt _ _)))))
      refine wpQuiet_nil ?_
      rintro _ ⟨⟨O, d⟩, rfl⟩
      obtain ⟨W2, hW2⟩ : ∃ W2 : World, Hid (W2 = xt w O d) := ⟨_, Lib.hid rfl⟩
      rw [← hW2.out]
      have G2 : Hid (Gr w W2) := Lib.hid (by rw [hW2.out]; exact (Gr.refl _).xt O d)
      have p2 := cell_gr G2.out r2
      have p0 := cell_gr G2.out r0
      have ph := has_of_cell p2
      clear r0 r1 r2 rh hW2
      obtain ⟨W3, hW3⟩ : ∃ W3 : World, Hid (W3 = W2.alloc (.cells #[.int .i64 b.index, .int .i64 0, .slice none 0 0] 81)) := ⟨_, Lib.hid rfl⟩
      obtain ⟨N3, hN3⟩ : ∃ N3 : Nat, Hid (W2.heap.size = N3) := ⟨_, Lib.hid rfl⟩
      have g3 : Hid (Gr w W3) := Lib.hid (by rw [hW3.out]; exact G2.out.alloc _)
      have R3 := Lib.hid (HR.out.gr g3.out)
      have CC : Hid (∀ j u, ([.int .i64 b.index, .int .i64 0, .slice none 0 0] : List Value)[j]? = some u → W3.cell? ((⟨N3, 0, none⟩ : Addr).add j) = some u) := Lib.hid (by
        have := row_cells (Row.new W2 #[.int .i64 b.index, .int .i64 0, .slice none 0 0] 81)
        rw [← hW3.out, hN3.out] at this
        exact this)
      have base := Lib.hid (HG.out.trans g3.out).size
      go_wp2_with (first
        | (at_builtin; rw [← hW3.out, hN3.out]; refine wpList_append_gets _ rfl _ _ 25 rfl w0.heap.size 81 i0 (.agg #[.int .i64 0, .int .i64 0, .slice none 0 0]) 3 40 Tryz.underlying25 hi hz0 hz1 hz2 rfl (by decide) (.slice A xs.length cap) xs.length (xs.flatMap encN) rfl R3.out.own (some ⟨N3, 0, none⟩) 1 1 [.int .i64 b.index, .int .i64 0, .slice none 0 0] rfl ⟨rfl, fun _ => ⟨_, rfl, CC.out⟩⟩ (one_brn _ _) (by unfold maxLen; omega) (by omega) base.out ?_; intro v' W4 hown hgrow _; obtain ⟨a4, c4, rfl⟩ := owns_slice hown; have M4 := Lib.hid (R3.out.more (w := w) b.index 0 hown hgrow g3.out.size (.of_gr g3.out)); have G4 : Hid (Gr w0 W4) := Lib.hid ((HG.out.trans g3.out).grown hgrow (fun k e => (R3.out.own.lt k e).1)); have r4 := R3.out.row.grown hgrow (owns_apart R3.out.own R3.out.row.s (by decide)); have q2 := r4.cell 2 (by simp); have qf := r4.free 2; have qh := r4.has; clear hown hgrow r4 hW3)
        | fail)
      go_ret
      exact ⟨rfl, a4, c4, [(⟨b.index, 0, []⟩, none, 0)], M4.out.1, rfl, (fun z hz B q _ => absurd (by rw [List.mem_singleton.1 hz]) q), G4.out.setc HR.out.low, M4.out.2⟩
    · rw [e] at ej
      injection ej with e1 e2
      subst e1 e2
      obtain ⟨bc, oc, eal, ⟨d0, _⟩, ⟨ap, cp, d1, _⟩, ⟨ac, cc, d2, _, d2f, _⟩, _⟩ := clks_gr HE.out.clks hg f hf
      subst eal
      have kf : (kOf l f).toNat = l[f].choices.length := by rw [kOf_at hf]; simp
      obtain ⟨n, hnn⟩ : ∃ n, l[f].choices.length = n := ⟨_, rfl⟩
      rw [hnn] at d2 d2f kf
      obtain ⟨F, hF⟩ : ∃ F, refB l ms g = F := ⟨_, rfl⟩
      have RBe : Hid (refB l ms (g + 1) p xs.length = ⟨-1, f, (kidsGo F p f (xs.length + 1) n).2⟩ :: (kidsGo F p f (xs.length + 1) n).1) := Lib.hid (by
        rw [refB, e, if_neg (by omega), hF]
        simp only [Int.toNat_natCast, kf])
      have hfp : f < p.length := by rw [lp]; exact hf
      have SZ2 : Hid (∀ k, k < n → xs.length + 1 + (kidsGo F p f (xs.length + 1) k).1.length + (F (p.set f k) (xs.length + 1 + (kidsGo F p f (xs.length + 1) k).1.length)).length ≤ 100000) := Lib.hid (fun k hk => by
        have q := kidsGo_mono F p f (xs.length + 1) (show k + 1 ≤ n by omega)
        have q2 := hsz
        rw [RBe.out, List.length_cons] at q2
        simp only [kidsGo, List.length_append] at q
        omega)
      have n8 : n ≤ 8 := by rw [← hnn]; exact (small_at NB.out hf).2
      have IHk : Hid (∀ (k : Nat), k < n → ∀ (w' : World) (A : Option Addr) (cap : Nat) (ys : List (Brn × Option Addr × Nat)) (SB' cs' : Nat), Gr w0 w' → RefAt w0.heap.size w' RB (.slice (some ⟨bc, oc, none⟩) l.length cl) (.slice ab (allB l ms).length cb) A cap (xs ++ (⟨-1, f, []⟩, none, 0) :: ys) → ys.length = (kidsGo F p f (xs.length + 1) k).1.length → RowS w' SB' 3 (nums (p.set f k)) →
          Calls Tryz.prog 68 #[.pointer (some ⟨RB, 0, none⟩), .slice (some ⟨SB', 0, none⟩) l.length cs'] w' (AddsB l ms w0 RB (.slice (some ⟨bc, oc, none⟩) l.length cl) (.slice ab (allB l ms).length cb) (xs ++ (⟨-1, f, []⟩, none, 0) :: ys) (F (p.set f k) (xs.length + 1 + (kidsGo F p f (xs.length + 1) k).1.length)) w')) := Lib.hid (fun k hk w' A cap ys SB' cs' hg' hr' hy hs' => by
        have hlen : (xs ++ (⟨-1, f, []⟩, none, 0) :: ys).length = xs.length + 1 + (kidsGo F p f (xs.length + 1) k).1.length := by rw [List.length_append, List.length_cons, hy]; omega
        have ho2 := opens_set (x := (k : Int)) hfp hof (by omega)
        have := ih (p.set f k) (hp.set hf (by omega) (by rw [kOf_at hf, hnn]; omega)) (by omega) (hn.set hfp hof) w' A cap (xs ++ (⟨-1, f, []⟩, none, 0) :: ys) SB' cs' hg' hr' hs' (by rw [hF, hlen]; exact SZ2.out k hk)
        rw [hF, hlen] at this
        exact this)
      rw [RBe.out]
      have BW : Hid (∀ b ∈ xs, ∀ B, b.1.next ≠ [] → b.2.1 = some ⟨B, 0, none⟩ → B < w.heap.size) := Lib.hid (fun b hb B q e => (hr.nxt.below b hb B q e).2)
      have HFL := Lib.hid hf
      have CL : Hid (∀ W, Gr w0 W → W.cell? ⟨bc, oc + f * 5 + 2, none⟩ = some (.slice ac n cc)) := Lib.hid (fun W hW => by
        obtain ⟨b', o', e', _, _, ⟨ac', cc', q, _⟩, _⟩ := clks_gr HE.out.clks hW f hf
        obtain ⟨b'', o'', e'', _, _, ⟨ac'', cc'', q', _⟩, _⟩ := HE.out.clks f hf
        cases e'; cases e''
        have q2 := cell_gr hg q'
        rw [hnn] at q2
        rw [q2] at d2
        have q3 := cell_gr hW q'
        rw [hnn] at q3
        rw [q3]; exact d2)
      have LP := Lib.hid lp
      have WP := Lib.hid wp
      have f2 : (f : Int) < l.length := by omega
      have nb1 : ¬ RB = bc := by have := HR.out.low; have := has_of_cell (HE.out.clks f hf).choose_spec.choose_spec.2.1.1; unfold Has at this; obtain ⟨b', o', e', ⟨q, _⟩, _⟩ := HE.out.clks f hf; cases e'; have q2 := has_of_cell q; unfold Has at q2; omega
      have nb2 : ¬ bc = RB := fun e => nb1 e.symm
      unfold Fit at d2f
      clear ih hp ho hn hg hr hs hsz wp lp IH HN HO SZ SZ2 e RBe hF d0 d1 d2 kf hnn HP
      go_enter Tryz.func68, Tryz.ntmps68
      go_wp2_with fail
      refine wp_region_grows (by kernel_rfl) (by kernel_rfl) ?_
      repeat (go_big_quiet_step (first | (go_at_call 112; exact calls_grows (JD.out _ ((Gr.refl _).xt _ _)))))
      refine wpQuiet_nil ?_
      rintro _ ⟨⟨O, d⟩, rfl⟩
      obtain ⟨W2, hW2⟩ : ∃ W2 : World, Hid (W2 = xt w O d) := ⟨_, Lib.hid rfl⟩
      rw [← hW2.out]
      have G2 : Hid (Gr w W2) := Lib.hid (by rw [hW2.out]; exact (Gr.refl _).xt O d)
      have p2 := cell_gr G2.out r2
      have p0 := cell_gr G2.out r0
      have ph := has_of_cell p2
      clear r0 r1 r2 rh hW2
      obtain ⟨W3, hW3⟩ : ∃ W3 : World, Hid (W3 = W2.alloc (.cells #[.int .i64 (-1), .int .i64 (f : Int), .slice none 0 0] 81)) := ⟨_, Lib.hid rfl⟩
      obtain ⟨N3, hN3⟩ : ∃ N3 : Nat, Hid (W2.heap.size = N3) := ⟨_, Lib.hid rfl⟩
      have g3 : Hid (Gr w W3) := Lib.hid (by rw [hW3.out]; exact G2.out.alloc _)
      have R3 := Lib.hid (HR.out.gr g3.out)
      have CC : Hid (∀ j u, ([.int .i64 (-1), .int .i64 (f : Int), .slice none 0 0] : List Value)[j]? = some u → W3.cell? ((⟨N3, 0, none⟩ : Addr).add j) = some u) := Lib.hid (by
        have := row_cells (Row.new W2 #[.int .i64 (-1), .int .i64 (f : Int), .slice none 0 0] 81)
        rw [← hW3.out, hN3.out] at this
        exact this)
      have base := Lib.hid (HG.out.trans g3.out).size
      go_wp2_with (first
        | (at_builtin; rw [← hW3.out, hN3.out]; refine wpList_append_gets _ rfl _ _ 25 rfl w0.heap.size 81 i0 (.agg #[.int .i64 0, .int .i64 0, .slice none 0 0]) 3 40 Tryz.underlying25 hi hz0 hz1 hz2 rfl (by decide) (.slice A xs.length cap) xs.length (xs.flatMap encN) rfl R3.out.own (some ⟨N3, 0, none⟩) 1 1 [.int .i64 (-1), .int .i64 (f : Int), .slice none 0 0] rfl ⟨rfl, fun _ => ⟨_, rfl, CC.out⟩⟩ (one_brn _ _) (by unfold maxLen; omega) (by omega) base.out ?_; intro v' W4 hown hgrow _; obtain ⟨a4, c4, rfl⟩ := owns_slice hown; have M4 := Lib.hid (R3.out.more (w := w) (-1) f hown hgrow g3.out.size (.of_gr g3.out)); have G4 : Hid (Gr w0 W4) := Lib.hid ((HG.out.trans g3.out).grown hgrow (fun k e => (R3.out.own.lt k e).1)); have r4 := R3.out.row.grown hgrow (owns_apart R3.out.own R3.out.row.s (by decide)); have q2 := r4.cell 2 (by simp); have qf := r4.free 2; have qh := r4.has; have q0 := r4.cell 0 (by simp); have t0 := CL.out W4 G4.out; have th := has_of_cell t0; clear r4 hgrow hown hW3; simp only [List.getElem_cons_zero, List.getElem_cons_succ] at q0 q2)
        | fail)
      obtain ⟨W5, hW5⟩ : ∃ W5 : World, Hid (W5 = W4.setCell ⟨RB, 2, none⟩ (.slice a4 (xs.length + 1) c4)) := ⟨_, Lib.hid rfl⟩
      rw [← hW5.out]
      have R5 : Hid (RefAt w0.heap.size W5 RB (.slice (some ⟨bc, oc, none⟩) l.length cl) (.slice ab (allB l ms).length cb) a4 c4 (xs ++ [(⟨-1, f, []⟩, none, 0)])) := Lib.hid (by rw [hW5.out]; exact M4.out.1)
      have K5 : Hid (KeepI w W5) := Lib.hid (by rw [hW5.out]; exact M4.out.2)
      have G5 : Hid (Gr w0 W5) := Lib.hid (by rw [hW5.out]; exact G4.out.setc HR.out.low)
      clear hW5 M4 G4 q0 q2 qf qh t0 th p0 p2 ph R3 CC base g3 hN3
      obtain ⟨MK, hMK⟩ : ∃ MK : Brn × Option Addr × Nat, Hid (MK = (⟨-1, f, []⟩, none, 0)) := ⟨_, Lib.hid rfl⟩
      rw [← hMK.out] at R5 IHk
      go_loopw [8, 63] (fun s8 s63 wr => ∃ (k : Nat) (a : Option Addr) (c : Nat) (A : Option Addr) (cap : Nat) (ys : List (Brn × Option Addr × Nat)), k ≤ n ∧ s63 = .int .i64 (k : Int) ∧ s8 = .slice a k c ∧ wr.ownsRow w.heap.size 3 1 (.slice a k c) k (nums (kidsGo F p f (xs.length + 1) k).2) ∧ RefAt w0.heap.size wr RB (.slice (some ⟨bc, oc, none⟩) l.length cl) (.slice ab (allB l ms).length cb) A cap (xs ++ MK :: ys) ∧ ys.map (·.1) = (kidsGo F p f (xs.length + 1) k).1 ∧ NotIn (.slice a k c) ys ∧ (∀ b ∈ ys, ∀ B, b.1.next ≠ [] → b.2.1 = some ⟨B, 0, none⟩ → w.heap.size ≤ B) ∧ Gr w0 wr ∧ KeepI w wr) (fun _ s63 _ => n - (intOf s63).toNat)
      case atStart => exact ⟨0, none, 0, a4, c4, [], Nat.zero_le _, rfl, rfl, World.ownsRow_nil _ _ _ _, R5.out, rfl, (fun b hb => by cases hb), (fun b hb => by cases hb), G5.out, K5.out⟩
      case round =>
        obtain ⟨k, a, c, A2, cap2, ys, hk, rfl, rfl, ho, hr, hy, hni, hfr, hg, hki2⟩ := hrel
        have OW := Lib.hid ho
        have RR := Lib.hid hr
        have YS := Lib.hid hy
        have NI := Lib.hid hni
        have FR := Lib.hid hfr
        have GG := Lib.hid hg
        have KK := Lib.hid hki2
        obtain ⟨wo, hwo⟩ : ∃ wo : World, wo = wr := ⟨_, rfl⟩
        have yl : ys.length = (kidsGo F p f (xs.length + 1) k).1.length := by rw [← hy, List.length_map]
        have YL := Lib.hid yl
        by_cases hlt : k < n
        · have k2 : (k : Int) < n := by omega
          have CLN := Lib.hid (clone_any p (some ⟨SB, 0, none⟩) cs wr ((KK.out.rowS HS.out).slI WP.out) (by rw [LP.out]; omega) (by rw [LP.out]; exact hl))
          rw [LP.out] at CLN
          clear ho hr hy hni hfr hg hki2 hwo yl
          go_wp2_with fail
          refine CLN.out.mono ?_
          rintro e w7 ⟨B7, c7, rfl, hrow7, hB7, hg7⟩
          have R7 := Lib.hid hrow7
          have cf := hrow7.iat f hfp
          have ff := hrow7.free f
          have fh := hrow7.has
          have G7 := Lib.hid hg7
          have B7' := Lib.hid hB7
          clear hrow7 hg7 hB7 CLN
          go_wp2_with fail
          obtain ⟨W8, hW8⟩ : ∃ W8 : World, Hid (W8 = w7.setCell ⟨B7, f, none⟩ (.int .i64 (k : Int))) := ⟨_, Lib.hid rfl⟩
          rw [← hW8.out]
          have R8 : Hid (RowS W8 B7 3 (nums (p.set f (k : Int)))) := Lib.hid (by rw [hW8.out]; exact R7.out.iset f hfp k)
          have g8 : Hid (Gr wr W8) := Lib.hid (by rw [hW8.out]; exact G7.out.setc B7'.out)
          have OW8 := Lib.hid (Gr.owns OW.out g8.out)
          have GG8 := Lib.hid (GG.out.trans g8.out)
          have KK8 := Lib.hid (KK.out.gr g8.out)
          have RR8 := Lib.hid (RR.out.gr g8.out)
          have wsz : Hid (wr.heap.size ≤ W8.heap.size) := Lib.hid g8.out.size
          have CB := Lib.hid (IHk.out k hlt W8 A2 cap2 ys B7 c7 GG8.out RR8.out YL.out R8.out)
          clear hW8 R7 cf ff fh G7 B7' g8
          refine CB.out.mono ?_
          rintro e w9 ⟨rfl, A9, cap9, zs, hr9, hz9, hf9, hg9, hk9⟩
          have RR9 := Lib.hid hr9
          have ZS := Lib.hid hz9
          have GG9 := Lib.hid hg9
          have KK9 := Lib.hid (KK8.out.trans hk9)
          have OW9 := Lib.hid (hk9.owns OW8.out)
          have al9 : (xs ++ MK :: ys).length = xs.length + 1 + (kidsGo F p f (xs.length + 1) k).1.length := by rw [List.length_append, List.length_cons, YL.out]; omega
          have NI9 : Hid (NotIn (.slice a k c) (xs ++ MK :: ys ++ zs)) := Lib.hid (by
            intro z hz B hq1 hq2 hq3
            have hB := OW.out.lt B hq3.symm
            rcases List.mem_append.1 hz with hz | hz
            · rcases List.mem_append.1 hz with hz | hz
              · have := BW.out z hz B hq1 hq2; omega
              · rcases List.mem_cons.1 hz with hz | hz
                · subst hz; rw [hMK.out] at hq1; exact hq1 rfl
                · exact NI.out z hz B hq1 hq2 hq3
            · have := hf9 z hz B hq1 hq2; have := wsz.out; omega)
          have FR9 : Hid (∀ b ∈ ys ++ zs, ∀ B, b.1.next ≠ [] → b.2.1 = some ⟨B, 0, none⟩ → w.heap.size ≤ B) := Lib.hid (fun b hb B q1 q2 => by
            rcases List.mem_append.1 hb with hb | hb
            · exact FR.out b hb B q1 q2
            · have := hf9 b hb B q1 q2; have := wsz.out; have := KK.out.1; omega)
          rw [al9]
          obtain ⟨at9, hat9⟩ : ∃ at9 : Nat, Hid (xs.length + 1 + (kidsGo F p f (xs.length + 1) k).1.length = at9) := ⟨_, Lib.hid rfl⟩
          rw [hat9.out]
          obtain ⟨N9, hN9⟩ : ∃ N9 : Nat, Hid (w9.heap.size = N9) := ⟨_, Lib.hid rfl⟩
          obtain ⟨W10, hW10⟩ : ∃ W10 : World, Hid (W10 = w9.alloc (.cells #[.int .i64 (at9 : Int)] 3)) := ⟨_, Lib.hid rfl⟩
          have g10 : Hid (Gr w9 W10) := Lib.hid (by rw [hW10.out]; exact (Gr.refl _).alloc _)
          have RR10 := Lib.hid (RR9.out.gr g10.out)
          have OW10 := Lib.hid (Gr.owns OW9.out g10.out)
          have GG10 := Lib.hid (GG9.out.trans g10.out)
          have KK10 := Lib.hid (KK9.out.gr g10.out)
          have CC : Hid (∀ j u, ([.int .i64 (at9 : Int)] : List Value)[j]? = some u → W10.cell? ((⟨N9, 0, none⟩ : Addr).add j) = some u) := Lib.hid (by
            have := row_cells (Row.new w9 #[.int .i64 (at9 : Int)] 3)
            rw [← hW10.out, hN9.out] at this
            exact this)
          have one : Hid (∀ u ∈ ([.int .i64 (at9 : Int)] : List Value), u.oneCell' = true) := Lib.hid (fun u hu => by rw [List.mem_singleton.1 hu]; rfl)
          have base := Lib.hid KK10.out.1
          have kl := Lib.hid (kidsGo_len F p f (xs.length + 1) k)
          clear hr9 hz9 hf9 hg9 hk9 al9 OW OW8 OW9 RR RR8 RR9 GG GG8 GG9 KK KK8 KK9 CB
          go_wp2_with (first
            | (at_builtin; rw [← hW10.out, hN9.out]; refine wpList_append_gets _ rfl _ _ 22 rfl w.heap.size 3 k0 (.int .i64 0) 1 8 Tryz.underlying22 hki ky0 ky1 ky2 rfl (by decide) (.slice a k c) k (nums (kidsGo F p f (xs.length + 1) k).2) rfl OW10.out (some ⟨N9, 0, none⟩) 1 1 [.int .i64 (at9 : Int)] rfl ⟨rfl, fun _ => ⟨_, rfl, CC.out⟩⟩ one.out (by unfold maxLen; omega) (by omega) base.out ?_; intro v' W11 hown hgrow hblk; obtain ⟨a11, c11, rfl⟩ := owns_slice hown; have O11 := Lib.hid hown; have HG11 := Lib.hid hgrow; have HB11 := Lib.hid hblk; clear hown hgrow hblk)
            | fail)
          go_roundw
          case rel =>
            refine ⟨k + 1, a11, c11, A9, cap9, ys ++ zs, by omega, by go_num, rfl, ?_, ?_, ?_, ?_, FR9.out, GG10.out.grown HG11.out (fun b e => Nat.le_trans (by have := HG.out.size; omega) (OW10.out.lt b e).1), KK10.out.mine HG11.out (fun B e => (OW10.out.lt B e).1)⟩
            · have := O11.out
              simp only [kidsGo]
              rw [hat9.out]
              simpa [nums] using this
            · have := RR10.out.nums OW10.out HG11.out NI9.out
              rw [List.append_assoc, List.cons_append] at this
              exact this
            · simp only [kidsGo]
              rw [List.map_append, YS.out, ZS.out]
            · intro z hz B hq1 hq2 hq3
              have hm : z ∈ xs ++ MK :: ys ++ zs := by
                rw [List.append_assoc, List.cons_append]
                exact List.mem_append_right _ (List.mem_cons_of_mem _ hz)
              rcases HB11.out with q | q
              · exact NI9.out z hm B hq1 hq2 (by rw [hq3, q])
              · have := RR10.out.nxt.below z hm B hq1 hq2
                rw [q] at hq3
                injection hq3 with hq3
                omega
          case measure => simp [intOf]; omega
        · have hk' : k = n := by omega
          subst hk'
          clear hk hlt yl
          have nl : (xs ++ MK :: ys).length = xs.length + (ys.length + 1) := by simp
          obtain ⟨g, gc, e1, ec, gb, hgc⟩ := owns_cell hr.own (by rw [nl]; omega)
          cases e1
          have q2 := hr.row.cell 2 (by simp)
          have qh := hr.row.has
          simp only [List.getElem_cons_succ, List.getElem_cons_zero] at q2
          rw [nl] at q2 ec
          have gz0 := hgc (xs.length * 3 + 2) (by rw [nl]; omega)
          have gz : wr.cell? ⟨g, xs.length * 3 + 2, none⟩ = some (.slice none 0 0) := by
            rw [gz0, flat_at encN 3 (fun _ => rfl) (xs ++ MK :: ys) xs.length 2 (by rw [nl]; omega) (by omega)]
            have : (xs ++ MK :: ys)[xs.length]'(by rw [nl]; omega) = MK := by simp
            rw [this, hMK.out]; rfl
          have gf := hr.own.frozenAt (xs.length * 3 + 2)
          have gh := has_of_cell gz
          have a2 : (xs.length : Int) < ((xs.length + (ys.length + 1) : Nat) : Int) := by omega
          have kl := Lib.hid (kidsGo_len F p f (xs.length + 1) k)
          have o1 := owns_own1_low ho (Nat.le_trans HG.out.size KK.out.1 |> fun _ => HG.out.size)
          have FL := Lib.hid (refAt_fill RR.out (kidsGo F p f (xs.length + 1) k).2 a c o1 (by
            obtain ⟨_, _, e, hc, _⟩ := owns_own1 ho
            cases e
            rw [kl.out]; exact hc))
          rw [kl.out] at FL
          have gb0 : Hid (w0.heap.size ≤ g) := Lib.hid gb
          clear hgc gz0 ho hr hy hni hfr hg hki2 o1
          go_wp2_with fail
          go_ret
          have hf := FL.out
          rw [hMK.out] at hf
          refine ⟨rfl, _, cap2, (⟨-1, f, (kidsGo F p f (xs.length + 1) k).2⟩, a, c) :: ys, hf.1, by rw [List.map_cons, YS.out], ?_, GG.out.setc gb0.out, KK.out.trans hf.2⟩
          intro z hz B hq1 hq2
          rcases List.mem_cons.1 hz with e | hz
          · subst e
            simp only at hq2
            exact (OW.out.lt B (by rw [hq2]; rfl)).1
          · exact FR.out z hz B hq1 hq2
end Go.Proofs.YtenehghpmnajpaaGreatDoor
/-! Contract of tuning.Refute. -/
set_option linter.unusedVariables false
set_option linter.unusedSimpArgs false
namespace Go.Proofs.YtenehghpmnajpaaGreatDoor
open Go.RowKit
open Classical
/-- Branches in rows of the call's own. -/
def BrnsAt (base : Nat) (w : World) (v : Value) (xs : List (Brn × Option Addr × Nat)) : Prop :=
  w.ownsRow base 81 3 v xs.length (xs.flatMap encN) ∧ NextAt base w xs
/-- The refutation that the program builds, whole. -/
noncomputable def refS (l : List Clk) (ms : List Lmt) : List Brn := refB l ms (opens (startS l) + 1) (startS l) 0
def GivesRefute (w : World) (l : List Clk) (ms : List Lmt) (e : Ending) (w' : World) : Prop :=
  Gr w w' ∧ (((∃ s, SetOk l s ∧ meetS l ms s = true) ∧ e = .returned (.tuple #[.slice none 0 0, .int .i64 8])) ∨
    ((∀ s, SetOk l s → meetS l ms s = false) ∧ ∃ A cap xs, e = .returned (.tuple #[.slice A xs.length cap, .int .i64 0]) ∧ BrnsAt w.heap.size w' (.slice A xs.length cap) xs ∧ xs.map (·.1) = refS l ms))
/-- Without clocks the only setting meets all limits that are right. -/
theorem meet_empty {l : List Clk} {ms : List Lmt} (e : l.length = 0) (hm : ∀ j (h : j < ms.length), LmtOk l ms[j]) : ∃ s, SetOk l s ∧ meetS l ms s = true := by
  have hl : l = [] := List.eq_nil_of_length_eq_zero e
  subst hl
  have hms : ms = [] := by
    cases ms with
    | nil => rfl
    | cons x xs =>
      have := hm 0 (by simp)
      have h1 := this.1
      have h2 := this.2.1
      simp at h1 h2
      omega
  subst hms
  refine ⟨[], ⟨rfl, fun i h => by simp at h⟩, meetS_true.2 ⟨?_, fun x hx => by cases hx⟩⟩
  intro i hi
  simp at hi
set_option maxRecDepth 100000 in
set_option maxHeartbeats 2000000 in
theorem refute_any (l : List Clk) (ms : List Lmt) (al am : Option Addr) (cl cm : Nat) (w : World) (henv : Env w l ms al am) :
    Calls Tryz.prog 22 #[.slice al l.length cl, .slice am ms.length cm] w (GivesRefute w l ms) := by
  have hl := small_len (cchk_zero henv.chk).1
  have hml := henv.lims.1
  have SV := Lib.hid (solve_any l ms al am cl cm w henv)
  have HE := Lib.hid henv
  clear henv
  go_enter Tryz.func22, Tryz.ntmps22
  go_wp2_with fail
  refine SV.out.mono ?_
  rintro e w1 ⟨hg1, ⟨s, B, c, hs, hm, _, rfl, _, _⟩ | ⟨hno, rfl⟩⟩
  · have G1 := Lib.hid hg1
    have EX : Hid (∃ s, SetOk l s ∧ meetS l ms s = true) := Lib.hid ⟨s, hs, hm⟩
    clear hg1 hs hm SV
    go_wp2_with fail
    go_ret2
    exact ⟨G1.out, .inl ⟨EX.out, rfl⟩⟩
  · have G1 := Lib.hid hg1
    have HNO := Lib.hid hno
    have h1 : 1 ≤ l.length := by
      rcases Nat.eq_zero_or_pos l.length with e | e
      · obtain ⟨s, q1, q2⟩ := meet_empty (ms := ms) e HE.out.lims.2
        rw [hno s q1] at q2; cases q2
      · exact e
    have AL := Lib.hid (all_any l ms al am cl cm w1 (clks_gr HE.out.clks hg1) (lmts_gr HE.out.lmts hg1) hl hml)
    clear hg1 hno SV
    go_wp2_with fail
    refine AL.out.mono ?_
    rintro e w2 ⟨v, rfl, ho, hg2⟩
    obtain ⟨ab, cb, rfl, hb⟩ := bnds_of_owns ho
    have G2 := Lib.hid (G1.out.trans hg2)
    have HB := Lib.hid hb
    clear ho hb hg2 AL
    go_wp2_with fail
    obtain ⟨RB, hRB⟩ : ∃ RB : Nat, Hid (w2.heap.size = RB) := ⟨_, Lib.hid rfl⟩
    obtain ⟨W3, hW3⟩ : ∃ W3 : World, Hid (W3 = w2.alloc (.cells #[.slice al l.length cl, .slice ab (allB l ms).length cb, .slice none 0 0] 110)) := ⟨_, Lib.hid rfl⟩
    rw [← hW3.out, hRB.out]
    have R3 : Hid (Row W3 RB 110 [.slice al l.length cl, .slice ab (allB l ms).length cb, .slice none 0 0]) := Lib.hid (by rw [hW3.out, ← hRB.out]; exact Row.new w2 _ _)
    have G3 : Hid (Gr w2 W3) := Lib.hid (by rw [hW3.out]; exact (Gr.refl _).alloc _)
    clear hW3
    refine (start_any l al cl W3 HE.out.chk (clks_gr HE.out.clks (G2.out.trans G3.out))).mono ?_
    rintro e w4 ⟨SB, rfl, hs4, hb4, hg4⟩
    have G4 := Lib.hid (G3.out.trans hg4)
    have RA : Hid (RefAt w2.heap.size w4 RB (.slice al l.length cl) (.slice ab (allB l ms).length cb) none 0 []) := Lib.hid
      ⟨R3.out.gr hg4, World.ownsRow_nil _ _ _ _, (fun b hb => by cases hb), by rw [hRB.out]; exact Nat.le_refl _⟩
    have S4 := Lib.hid hs4
    clear hs4 hb4 hg4 R3 G3
    have NE : Hid (NoExt l ms (startS l)) := Lib.hid (fun s hs _ => HNO.out s hs)
    have BR := Lib.hid (branch_any l ms w2 al am ab cl cm cb RB (HE.out.gr G2.out) HB.out h1 (opens (startS l) + 1) (startS l) (startS_ok HE.out.chk) (by omega) NE.out w4 none 0 [] SB l.length G4.out RA.out S4.out
      (by have := refB_small (g := opens (startS l) + 1) (a := 0) HE.out.chk HE.out.lims (startS_ok HE.out.chk) NE.out; simpa using (by omega : (refB l ms (opens (startS l) + 1) (startS l) 0).length ≤ 100000)))
    go_wp2_with fail
    refine BR.out.mono ?_
    rintro e w5 ⟨rfl, A, cap, ys, hr5, hy5, _, hg5, _⟩
    have q2 := hr5.row.cell 2 (by simp)
    have qh := hr5.row.has
    simp only [List.getElem_cons_zero, List.getElem_cons_succ, List.nil_append] at q2
    have FIN : Hid (BrnsAt w.heap.size w5 (.slice A ys.length cap) ys) := Lib.hid ⟨owns_low hr5.own G2.out.size, fun b hb => ⟨(hr5.nxt b hb).1.low G2.out.size, (hr5.nxt b hb).2⟩⟩
    have G5 := Lib.hid (G2.out.trans hg5)
    have YS := Lib.hid hy5
    clear hr5 hy5 hg5 BR RA S4 G4
    go_wp2_with fail
    go_ret2
    exact ⟨G5.out, .inr ⟨HNO.out, A, cap, ys, rfl, FIN.out, YS.out⟩⟩
end Go.Proofs.YtenehghpmnajpaaGreatDoor

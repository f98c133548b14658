/- slices.Reverse of holds; managed.Return. -/
import Derived.Test.YthpgoldahffbcaaHdE
set_option linter.unusedVariables false
set_option linter.unusedSimpArgs false
namespace Go.Proofs.Ythpgoldahffbcaa
open Go.RowKit
/-- The three cells of element k are stored. -/
def setH (w : World) (B k : Nat) (x : Hld) : World := ((w.setCell ⟨B, k * 3, none⟩ (.int .i64 x.device)).setCell ⟨B, k * 3 + 1, none⟩ (.int .i64 x.kind)).setCell ⟨B, k * 3 + 2, none⟩ (.int .i64 x.unit)
theorem encHs_set (l : List Hld) (k : Nat) (x : Hld) (hk : k < l.length) (rest : List Value) : (((encHs l ++ rest).set (k * 3) (.int .i64 x.device)).set (k * 3 + 1) (.int .i64 x.kind)).set (k * 3 + 2) (.int .i64 x.unit) = encHs (l.set k x) ++ rest := by
  apply List.ext_getElem?
  intro j
  have hl := encHs_len l
  have hl2 := encHs_len (l.set k x)
  rw [List.length_set] at hl2
  simp only [List.getElem?_set]
  by_cases hj : j < l.length * 3
  · rw [List.getElem?_append_left (by omega), List.getElem?_append_left (by omega)]
    have hq := flat_at encH 3 encH_len (l.set k x) (j / 3) (j % 3) (by rw [List.length_set]; omega) (by omega)
    have hp := flat_at encH 3 encH_len l (j / 3) (j % 3) (by omega) (by omega)
    rw [show j / 3 * 3 + j % 3 = j by omega] at hq hp
    simp only [List.length_set, List.length_append]
    unfold encHs
    rw [hq, hp, List.getElem_set]
    have h3 : j % 3 = 0 ∨ j % 3 = 1 ∨ j % 3 = 2 := by omega
    by_cases e : k = j / 3
    · rw [if_pos e]
      rcases h3 with q | q | q <;> rw [q]
      · rw [if_neg (by omega), if_neg (by omega), if_pos (by omega), if_pos (by unfold encHs at hl; omega)]; rfl
      · rw [if_neg (by omega), if_pos (by omega), if_pos (by unfold encHs at hl; omega)]; rfl
      · rw [if_pos (by omega), if_pos (by unfold encHs at hl; omega)]; rfl
    · rw [if_neg (by omega), if_neg (by omega), if_neg (by omega), if_neg e]
  · rw [if_neg (by omega), if_neg (by omega), if_neg (by omega), List.getElem?_append_right (by omega), List.getElem?_append_right (by omega), hl, hl2]
theorem Row.setH {w : World} {B T : Nat} {l : List Hld} {rest : List Value} (h : Row w B T (encHs l ++ rest)) (k : Nat) (hk : k < l.length) (x : Hld) : Row (Ythpgoldahffbcaa.setH w B k x) B T (encHs (l.set k x) ++ rest) := by
  have := ((h.set (k * 3) (.int .i64 x.device)).set (k * 3 + 1) (.int .i64 x.kind)).set (k * 3 + 2) (.int .i64 x.unit)
  rwa [encHs_set l k x hk rest] at this
theorem Row.atH {w : World} {B T : Nat} {l : List Hld} {rest : List Value} (h : Row w B T (encHs l ++ rest)) (k : Nat) (hk : k < l.length) : w.cell? ⟨B, k * 3, none⟩ = some (.int .i64 l[k].device) ∧ w.cell? ⟨B, k * 3 + 1, none⟩ = some (.int .i64 l[k].kind) ∧ w.cell? ⟨B, k * 3 + 2, none⟩ = some (.int .i64 l[k].unit) := by
  have key : ∀ j, (hj : j < 3) → w.cell? ⟨B, k * 3 + j, none⟩ = (encH l[k])[j]? := fun j hj => by
    have hl := encHs_len l
    have hlt : k * 3 + j < (encHs l ++ rest).length := by rw [List.length_append]; omega
    rw [h.cell _ hlt, ← List.getElem?_eq_getElem hlt, List.getElem?_append_left (by omega)]
    exact flat_at encH 3 encH_len l k j hk hj
  exact ⟨key 0 (by omega), key 1 (by omega), key 2 (by omega)⟩
/-- The list when the ends have been exchanged up to i. -/
def RevTo (l cur : List Hld) (i : Nat) : Prop := cur.length = l.length ∧ ∀ m (h : m < cur.length) (h' : m < l.length) (h'' : l.length - 1 - m < l.length), cur[m] = if m < i ∨ l.length - 1 - i < m then l[l.length - 1 - m] else l[m]
theorem RevTo.start (l : List Hld) : RevTo l l 0 := ⟨rfl, fun m h h' _ => by rw [if_neg (by omega)]⟩
theorem RevTo.step {l cur : List Hld} {i : Nat} (h : RevTo l cur i) (hi : i < l.length - 1 - i) (h1 : i < cur.length) (h2 : l.length - 1 - i < cur.length) : RevTo l ((cur.set i cur[l.length - 1 - i]).set (l.length - 1 - i) cur[i]) (i + 1) := by
  have hl := h.1
  refine ⟨by simp [hl], fun m hm hm' hm'' => ?_⟩
  have e1 := h.2 i h1 (by omega) (by omega)
  have e2 := h.2 (l.length - 1 - i) h2 (by omega) (by omega)
  rw [if_neg (by omega)] at e1 e2
  simp only [List.getElem_set]
  by_cases q1 : l.length - 1 - i = m
  · subst q1
    rw [if_pos rfl, if_pos (by omega), e1]
    congr 1; omega
  · rw [if_neg q1]
    by_cases q2 : i = m
    · subst q2
      rw [if_pos rfl, if_pos (by omega), e2]
    · rw [if_neg q2, h.2 m (by simpa using hm) hm' hm'']
      by_cases q3 : m < i ∨ l.length - 1 - i < m
      · rw [if_pos q3, if_pos (by omega)]
      · rw [if_neg q3, if_neg (by omega)]
theorem RevTo.done {l cur : List Hld} {i : Nat} (h : RevTo l cur i) (hi : ¬ i < l.length - 1 - i) (hn : i ≤ l.length) : cur = l.reverse := by
  refine List.ext_getElem (by simp [h.1]) fun m h1 h2 => ?_
  have hl := h.1
  rw [h.2 m h1 (by omega) (by omega), List.getElem_reverse]
  split
  · rfl
  · rename_i q
    congr 1; omega
/-- The row is changed in place. -/
def Reverses (w : World) (base : Nat) (v : Value) (l : List Hld) (e : Ending) (w' : World) : Prop := e = .returned (.tuple #[]) ∧ w'.ownsRow base 34 3 v l.length (encHs l.reverse) ∧ w.grownBy w' v.ownBlock
theorem grownBy_drew {w w' : World} {row : Option Nat} (h : w.grownBy w' row) : w.grownBy w'.drew row := h.trans ⟨rfl, rfl, rfl, Nat.le_refl _, fun _ _ _ => rfl⟩
theorem setH_grown (w : World) (B k : Nat) (x : Hld) : w.grownBy (setH w B k x) (some B) := ((grownBy_set w B _ _).trans (grownBy_set _ B _ _)).trans (grownBy_set _ B _ _)
set_option maxRecDepth 100000 in
set_option maxHeartbeats 4000000 in
theorem reverse_any (l : List Hld) (v : Value) (base : Nat) (w : World) (h : w.ownsRow base 34 3 v l.length (encHs l)) (hf : l.length ≤ 1000000) :
    Calls Try.prog 28 #[v] w (Reverses w base v l) := by
  obtain ⟨h0, ⟨rfl, hn⟩ | ⟨g, cap, cur0, rfl, hb, hg, hnc, hcm, hcs, htk⟩⟩ := h
  · have hl : l = [] := List.eq_nil_of_length_eq_zero hn
    subst hl
    go_enter Try.func28, Try.ntmps28
    go_wp2_with fail
    refine wp_loop_rounds 1 ?_
    rw [rounds_succ]
    go_wp2_with fail
    go_end0
    exact ⟨rfl, owns_nil _ _ _ _, World.grownBy.refl w _⟩
  · have R0 : Hid (Row w g 34 (encHs l ++ cur0.toList.drop (l.length * 3))) := Lib.hid (by rw [← htk, List.take_append_drop]; exact hg)
    have HL : Hid ((cur0.toList.drop (l.length * 3)).length + l.length * 3 = cap * 3) := Lib.hid (by rw [List.length_drop]; have e : cur0.toList.length = cap * 3 := (by simpa using hcs); rw [e]; have := Nat.mul_le_mul_right 3 hnc; omega)
    obtain ⟨rest, hrest⟩ : ∃ rest, rest = cur0.toList.drop (l.length * 3) := ⟨_, rfl⟩
    rw [← hrest] at R0 HL
    clear h0 hg hcs htk hrest
    go_enter Try.func28, Try.ntmps28
    go_wp2_with fail
    go_loopw [2, 3] (fun a b wr => ∃ (i : Nat) (cur : List Hld), a = .int .i64 i ∧ b = .int .i64 ((l.length : Int) - 1 - i) ∧ i ≤ l.length ∧ RevTo l cur i ∧ Row wr g 34 (encHs cur ++ rest) ∧ w.grownBy wr (some g)) (fun a _ _ => l.length - (intOf a).toNat)
    case atStart => exact ⟨0, l, rfl, by go_num, Nat.zero_le _, RevTo.start l, R0.out, World.grownBy.refl w _⟩
    case round =>
      obtain ⟨i, cur, rfl, rfl, hi, hrv, hr, hgr⟩ := hrel
      have RV := Lib.hid hrv
      have HR := Lib.hid hr
      have HG := Lib.hid hgr
      have hcl := hrv.1
      clear hrv hr hgr
      by_cases hlt : i < l.length - 1 - i
      · rw [show (l.length : Int) - 1 - i = ((l.length - 1 - i : Nat) : Int) from by omega]
        obtain ⟨j, hj⟩ : ∃ j, Hid (j = l.length - 1 - i) := ⟨_, Lib.hid rfl⟩
        have hjl : j < l.length := by rw [hj.out]; omega
        have hij : i < j := by rw [hj.out]; omega
        rw [← hj.out]
        have hjc : j < cur.length := by omega
        have hic : i < cur.length := by omega
        obtain ⟨c0, c1, c2⟩ := HR.out.atH i hic
        obtain ⟨d0, d1, d2⟩ := HR.out.atH j hjc
        have ch := has_of_cell c0
        have f0 := HR.out.free (i * 3)
        have f1 := HR.out.free (i * 3 + 1)
        have f2 := HR.out.free (i * 3 + 2)
        have f3 := HR.out.free (j * 3)
        have f4 := HR.out.free (j * 3 + 1)
        have f5 := HR.out.free (j * 3 + 2)
        have k0 : (0 : Int) ≤ i := by omega
        have k1 : (i : Int) < l.length := by omega
        have k2 : (0 : Int) ≤ j := by omega
        have k3 : (j : Int) < l.length := by omega
        have k4 : (i : Int) < j := by omega
        have n0 : j * 3 ≠ i * 3 := by omega
        have n1 : j * 3 ≠ i * 3 + 1 := by omega
        have n2 : j * 3 ≠ i * 3 + 2 := by omega
        have n3 : j * 3 + 1 ≠ i * 3 := by omega
        have n4 : j * 3 + 1 ≠ i * 3 + 1 := by omega
        have n5 : j * 3 + 1 ≠ i * 3 + 2 := by omega
        have n6 : j * 3 + 2 ≠ i * 3 := by omega
        have n7 : j * 3 + 2 ≠ i * 3 + 1 := by omega
        have n8 : j * 3 + 2 ≠ i * 3 + 2 := by omega
        go_wp2_with fail
        go_region_law (fail)
        all_goals go_wp2_with fail
        all_goals go_roundw
        all_goals first
          | (simp [intOf]; omega)
          | skip
        all_goals
          refine ⟨i + 1, (cur.set i cur[j]).set j cur[i], by go_num, ?_, by omega, ?_, ?_, ?_⟩
          · rw [show (j : Int) - 1 = (l.length : Int) - 1 - ((i + 1 : Nat) : Int) from by have := hj.out; omega]
          · have e := hj.out
            subst e
            exact RV.out.step hlt hic hjc
          · exact ((HR.out.setH i hic cur[j]).setH j (by simpa using hjc) cur[i]).drew
          · exact grownBy_drew (HG.out.trans ((setH_grown wr g i cur[j]).trans (setH_grown _ g j cur[i])))
      · have hrv := RV.out.done hlt hi
        subst hrv
        have EQ : Hid (decide ((i : Int) < (l.length : Int) - 1 - i) = false) := Lib.hid (by simp; omega)
        have eq := EQ.out
        go_wp2_with fail
        go_end0
        refine ⟨rfl, ⟨by rw [encHs_len, List.length_reverse], .inr ⟨g, cap, (encHs l.reverse ++ rest).toArray, rfl, hb, HR.out, hnc, hcm, ?_, ?_⟩⟩, HG.out⟩
        · have := HL.out
          simp only [List.size_toArray, List.length_append, encHs_len, List.length_reverse]
          omega
        · rw [List.take_append_of_le_length (by rw [encHs_len, List.length_reverse]; exact Nat.le_refl _), List.take_of_length_le (by rw [encHs_len, List.length_reverse]; exact Nat.le_refl _)]

/-- The holds that stay and those that come back. -/
def GivesRet (w : World) (l : List Hld) (dv : Int) (e : Ending) (w' : World) : Prop := ∃ v u, e = .returned (.tuple #[v, u]) ∧ w'.ownsRow w.heap.size 34 3 v (l.filter (fun x : Hld => x.device != dv)).length (encHs (l.filter (fun x : Hld => x.device != dv))) ∧ w'.ownsRow w.heap.size 34 3 u (l.filter (fun x : Hld => x.device == dv)).length (encHs (l.filter (fun x : Hld => x.device == dv)).reverse) ∧ Gr w w'
set_option maxHeartbeats 1000000 in
theorem return_any (dv : Int) (l : List Hld) (ao : Option Addr) (cap : Nat) (w : World) (h : SlOf 3 RHld w ao l) (hf : l.length ≤ 1000000) :
    Calls Try.prog 10 #[.slice ao l.length cap, .int .i64 dv] w (GivesRet w l dv) := by
  have H := Lib.hid h
  clear h
  go_enter Try.func10, Try.ntmps10
  go_wp2_with fail
  refine (of_any dv l ao cap _ (hlds_gr H.out (by repeat (first | with_reducible exact Gr.refl _ | with_reducible refine Gr.alloc _ ?_ | with_reducible refine Gr.xt _ _ ?_ | with_reducible refine Gr.drew ?_))) hf).mono ?_
  rintro e W1 ⟨u, rfl, ho, hg⟩
  have e0 : W1.cell? ⟨w.heap.size, 0, none⟩ = some (.int .i64 dv) := cell_gr hg (by simp [go_sem])
  have HO := Lib.hid ho
  have G1 : Hid (Gr w W1) := Lib.hid (Gr.trans ((Gr.refl _).alloc _) hg)
  have E0 := Lib.hid e0
  have hlen : (l.filter (fun x : Hld => x.device == dv)).length ≤ 1000000 := Nat.le_trans (List.length_filter_le _ _) hf
  clear ho hg e0
  go_wp2_with fail
  refine (reverse_any _ u _ _ HO.out hlen).mono ?_
  rintro e W2 ⟨rfl, ho2, hg2⟩
  have HO2 := Lib.hid (owns_low (base' := w.heap.size) ho2 (by simp))
  have GB := Lib.hid hg2
  have G2 : Hid (Gr w W2) := Lib.hid (Gr.grown G1.out hg2 (fun k e => by have := (owns_block HO.out k e).1; simp at this; omega))
  have e2 : W2.cell? ⟨w.heap.size, 0, none⟩ = some (.int .i64 dv) := by
    rw [World.cell?_of_block (w := W1) (hg2.block _ (has_of_cell E0.out) (fun q => by have := (owns_block HO.out _ q.symm).1; simp at this; omega))]
    exact E0.out
  have E2 := Lib.hid e2
  clear ho2 hg2 e2
  go_wp2_with fail
  refine (retF_any w.heap.size dv l ao cap _ (hlds_gr H.out G2.out) hf E2.out).mono ?_
  rintro e W3 ⟨v, rfl, ho3, hg3⟩
  have HO3 := Lib.hid (owns_low (base' := w.heap.size) ho3 G2.out.size)
  have G3 := Lib.hid hg3
  clear ho3 hg3
  go_wp2_with fail
  refine bodyPost_ret (v := .tuple #[v, u]) ?_ rfl ?_
  · simp [results, Try.results10, go_sem]
  exact ⟨v, u, rfl, HO3.out, Gr.owns HO2.out G3.out, G2.out.trans G3.out⟩
end Go.Proofs.Ythpgoldahffbcaa

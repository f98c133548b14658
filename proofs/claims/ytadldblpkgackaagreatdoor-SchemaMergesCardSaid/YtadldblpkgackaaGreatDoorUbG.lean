/- schema.number, schema.readHead. -/
import Derived.Test.YtadldblpkgackaaGreatDoorUbH
set_option linter.unusedVariables false
set_option linter.unusedSimpArgs false
namespace Go.Proofs.YtadldblpkgackaaGreatDoor
open Go.RowKit
open Classical

theorem atoi_any (l : St) (w : World) (hl : l.length ≤ 1000000) (h : Libs w) :
    Calls Tryz.prog 103 #[.string (bs l)] w fun e w' => ∃ ev, e = .returned (.tuple #[.int .i64 (numV l), ev]) ∧ (ev = .nilIface ∨ ∃ N, ev = .iface 160 (.pointer (some ⟨N, 0, none⟩))) ∧ -9223372036854775808 ≤ numV l ∧ numV l ≤ 9223372036854775807 ∧ Gr w w' := by
  obtain ⟨h1, h2, ⟨t1, p1, h3⟩, ⟨t2, p2, h4⟩, _⟩ := h
  have hd : (bs l).data.toList = l := bs_data l
  rcases hr : Lib.atoiAll l with v | _ | _
  · have hv : numV l = v := by unfold numV; rw [hr]
    rw [hv]
    refine (Tryz.strconv_Atoi_ok (bs l) (by rw [bs_size]; omega) v (by rw [hd]; exact hr) w).mono ?_
    rintro e w' ⟨rfl, hw⟩
    have := Lib.atoiAll_bounds hr
    refine ⟨_, rfl, .inl rfl, this.1, this.2, ?_⟩
    rcases hw with rfl | ⟨t, rfl⟩
    · exact Gr.refl _
    · exact bytes_gr w _ t
  · have hv : numV l = 0 := by unfold numV; rw [hr]
    rw [hv]
    refine Calls.mono (Any.strconv_Atoi_syntax_var Tryz.laysC172 (bs l) (by rw [bs_size]; omega) (by rw [hd]; exact hr) t1 p1 w h3) ?_
    rintro e w' ⟨N, rfl, _, _, hb⟩
    exact ⟨_, rfl, .inr ⟨N, rfl⟩, by omega, by omega, Gr.of_below hb⟩
  · have hv : numV l = Lib.atoiSat l := by unfold numV; rw [hr]
    rw [hv]
    refine (Tryz.strconv_Atoi_range_var (bs l) (by rw [bs_size]; omega) (by rw [hd]; exact hr) t2 p2 w h4).mono ?_
    rintro e w' ⟨N, rfl, _, _, hb⟩
    rw [hd]
    refine ⟨_, rfl, .inr ⟨N, rfl⟩, ?_, ?_, Gr.of_below hb⟩
    · unfold Lib.atoiSat; split <;> omega
    · unfold Lib.atoiSat; split <;> omega
theorem number_any (l : St) (w : World) (hl : l.length ≤ 1000000) (h : Libs w) :
    Calls Tryz.prog 77 #[.string (bs l)] w fun e w' => ∃ b, e = .returned (.tuple #[.int .i64 (numV l), .bool b]) ∧ (-9223372036854775808 ≤ numV l ∧ numV l ≤ 9223372036854775807) ∧ Gr w w' := by
  have H := Lib.hid h
  clear h
  go_enter Tryz.func77, Tryz.ntmps77
  go_wp2_with fail
  refine (atoi_any l w hl H.out).mono ?_
  rintro e w1 ⟨ev, rfl, hev, b1, b2, hg⟩
  have G1 := Lib.hid hg
  clear hg
  rcases hev with rfl | ⟨N, rfl⟩
  · go_wp2_with (go_at_call 87; refine (itoa_any _ _ b1 b2 ((H.out.gr G1.out).1)).mono ?_; rintro e w2 ⟨rfl, hg2⟩)
    refine bodyPost_ret (v := .tuple #[.int .i64 (numV l), .bool (Lib.itoa (numV l) == l)]) (by simp [results, Tryz.results77, go_sem]) rfl ?_
    exact ⟨_, rfl, ⟨b1, b2⟩, G1.out.trans hg2⟩
  · go_wp2_with fail
    refine bodyPost_ret (v := .tuple #[.int .i64 (numV l), .bool false]) (by simp [results, Tryz.results77, go_sem]) rfl ?_
    exact ⟨_, rfl, ⟨b1, b2⟩, G1.out⟩
theorem splitK_le (sep : St) (save : Nat) (hs : save = 0) : ∀ (k : Nat) (l : St), ∀ s ∈ Lib.splitK sep save k l, s.length ≤ l.length
  | 0, l, s, h => by simp [Lib.splitK] at h; rw [h]; exact Nat.le_refl _
  | k + 1, l, s, h => by
    unfold Lib.splitK at h
    split at h
    · simp at h; rw [h]; exact Nat.le_refl _
    · rcases List.mem_cons.1 h with q | q
      · rw [q, List.length_take]; exact Nat.min_le_right _ _
      · have := splitK_le sep save hs k _ s q
        rw [List.length_drop] at this; omega
theorem split_le (l sep : St) : ∀ s ∈ Lib.split l sep, s.length ≤ l.length := splitK_le sep 0 rfl _ l
theorem split_len (l sep : St) (h : 1 ≤ sep.length) : (Lib.split l sep).length ≤ l.length + 1 := by
  rw [← countB_len l sep h]
  have := Lib.countB_le (bs sep) (by rw [bs_size]; exact h) _ (bs l) (Nat.le_refl _)
  rw [bs_size] at this
  omega
/-- What readHead gives. -/
def GivesHd (line : St) (w : World) (e : Ending) (w' : World) : Prop :=
  Gr w w' ∧ if (readHeadP line).2 = true then e = .returned (.tuple #[.agg #[.string (bs (readHeadP line).1.comp), .bool (readHeadP line).1.closed, .slice none 0 0], .bool true]) else ∃ s b a n c, e = .returned (.tuple #[.agg #[.string s, .bool b, .slice a n c], .bool false])
set_option maxRecDepth 100000 in
set_option maxHeartbeats 4000000 in
theorem readHead_any (line : St) (w : World) (hl : line.length ≤ 100000) (h : Libs w) :
    Calls Tryz.prog 30 #[.string (bs line)] w (GivesHd line w) := by
  have H := Lib.hid h
  clear h
  go_enter Tryz.func30, Tryz.ntmps30
  go_wp2_with fail
  refine (split_any line [32] _ (by omega) (by simp) (H.out.gr ((Gr.refl _).alloc _))).mono ?_
  rintro e w1 ⟨B, rfl, hrow, hB, hg⟩
  have G1 := Lib.hid (((Gr.refl w).alloc (.cells #[.string ⟨#[]⟩, .bool false, .slice none 0 0] 24)).trans hg)
  have RB := Lib.hid (Row.gr (Row.new w #[.string ⟨#[]⟩, .bool false, .slice none 0 0] 24) hg)
  have R1 := Lib.hid hrow
  obtain ⟨L, hL⟩ : ∃ L, Lib.split line [32] = L := ⟨_, rfl⟩
  have HL := Lib.hid hL
  rw [hL] at R1 ⊢
  have hline : ∀ s ∈ L, s.length ≤ 100000 := by
    intro s hs
    rw [← hL] at hs
    exact Nat.le_trans (split_le _ _ s hs) hl
  have LL := Lib.hid hline
  have hm : L.length ≤ 100001 := by rw [← hL]; have := split_len line [32] (by simp); omega
  have W1 := Lib.hid (H.out.gr G1.out)
  have r0 := RB.out.cell 0 (by simp)
  have r1 := RB.out.cell 1 (by simp)
  have r2 := RB.out.cell 2 (by simp)
  simp only [List.getElem_cons_succ, List.getElem_cons_zero] at r0 r1 r2
  have f0 := RB.out.free 0
  have f1 := RB.out.free 1
  have f2 := RB.out.free 2
  have hx := has_of_cell r0
  clear hrow hB hg hL hline
  by_cases h2 : L.length < 2
  · have e : Hid ((readHeadP line).2 = false) := Lib.hid (by unfold readHeadP; rw [HL.out, if_pos (.inl h2)])
    go_wp2_with fail
    have RR := ((RB.out.set 0 (.string ⟨#[]⟩)).set 1 (.bool false)).set 2 (.slice none 0 0)
    have z0 := RR.cell 0 (by simp)
    have z1 := RR.cell 1 (by simp)
    have z2 := RR.cell 2 (by simp)
    simp only [List.set_cons_zero, List.set_cons_succ, List.getElem_cons_succ, List.getElem_cons_zero] at z0 z1 z2
    refine bodyPost_ret (v := .tuple #[.agg #[.string ⟨#[]⟩, .bool false, .slice none 0 0], .bool false]) (by simp [results, Tryz.results30, go_sem, z0, z1, z2]) rfl ?_
    refine ⟨((G1.out.setc (Nat.le_refl _)).setc (Nat.le_refl _)).setc (Nat.le_refl _), ?_⟩
    rw [if_neg (by rw [e.out]; decide)]
    exact ⟨_, _, _, _, _, rfl⟩
  · by_cases h3 : 3 < L.length
    · have e : Hid ((readHeadP line).2 = false) := Lib.hid (by unfold readHeadP; rw [HL.out, if_pos (.inr h3)])
      go_wp2_with fail
      have RR := ((RB.out.set 0 (.string ⟨#[]⟩)).set 1 (.bool false)).set 2 (.slice none 0 0)
      have z0 := RR.cell 0 (by simp)
      have z1 := RR.cell 1 (by simp)
      have z2 := RR.cell 2 (by simp)
      simp only [List.set_cons_zero, List.set_cons_succ, List.getElem_cons_succ, List.getElem_cons_zero] at z0 z1 z2
      refine bodyPost_ret (v := .tuple #[.agg #[.string ⟨#[]⟩, .bool false, .slice none 0 0], .bool false]) (by simp [results, Tryz.results30, go_sem, z0, z1, z2]) rfl ?_
      refine ⟨((G1.out.setc (Nat.le_refl _)).setc (Nat.le_refl _)).setc (Nat.le_refl _), ?_⟩
      rw [if_neg (by rw [e.out]; decide)]
      exact ⟨_, _, _, _, _, rfl⟩
    · have e : Hid (readHeadP line = (⟨L.getD 1 [], decide (L.length = 3), []⟩, visP (L.getD 1 []) && decide (headP ⟨L.getD 1 [], decide (L.length = 3), []⟩ = line))) := Lib.hid (by unfold readHeadP; rw [HL.out, if_neg (by omega)])
      have h1 : 1 < L.length := by omega
      have hc := R1.out.cell 1 (by simp [strV]; omega)
      have hcd : (strV L)[1]'(by simp [strV]; omega) = Value.string (bs (L.getD 1 [])) := by
        rw [List.getD_eq_getElem?_getD, List.getElem?_eq_getElem h1]
        simp [strV]
      rw [hcd] at hc
      have hcl : (L.getD 1 []).length ≤ 100000 := by
        rw [List.getD_eq_getElem?_getD, List.getElem?_eq_getElem h1]
        exact LL.out _ (List.getElem_mem h1)
      obtain ⟨c, hcc⟩ : ∃ c, L.getD 1 [] = c := ⟨_, rfl⟩
      obtain ⟨b, hb⟩ : ∃ b, decide (L.length = 3) = b := ⟨_, rfl⟩
      have e3 : ((L.length : Int) == 3) = b := by rw [← hb, Bool.eq_iff_iff, beq_iff_eq, decide_eq_true_eq]; omega
      rw [hcc, hb] at e
      rw [hcc] at hc hcl
      have hy := has_of_cell hc
      have hm3 : (1 : Int) < L.length := by omega
      clear hcd hcc hb
      by_cases hv : visP c = true
      · have HV : Hid (∀ W, Calls Tryz.prog 35 #[.string (bs c)] W fun e w' => e = .returned (.bool true) ∧ W = w') := Lib.hid (fun W => by rw [← hv]; exact vis_any c W (by omega))
        have VV := Lib.hid hv
        clear hv
        go_wp2_with fail
        go_region_with (first
          | (go_at_call 35; refine (HV.out _).mono ?_; rintro e w' ⟨rfl, rfl⟩)
          | (go_at_call 46; refine (head_any ⟨c, b, []⟩ none 0 0 _ (by dsimp only; omega)).mono ?_; rintro e w2 ⟨rfl, O, d, rfl⟩))
        all_goals go_wp2_with fail
        all_goals
          have RR := ((((RB.out.set 0 (.string (bs c))).set 1 (.bool b)).set 2 (.slice none 0 0)).alloc (.cells #[.string (bs c), .bool b, .slice none 0 0] 24)).xt O d
          have z0 := RR.cell 0 (by simp)
          have z1 := RR.cell 1 (by simp)
          have z2 := RR.cell 2 (by simp)
          simp only [List.set_cons_zero, List.set_cons_succ, List.getElem_cons_succ, List.getElem_cons_zero] at z0 z1 z2
          refine bodyPost_ret (v := .tuple #[.agg #[.string (bs c), .bool b, .slice none 0 0], .bool (headP ⟨c, b, []⟩ == line)]) (by simp [results, Tryz.results30, go_sem, z0, z1, z2, Act.put]) rfl ?_
          refine ⟨((((G1.out.setc (Nat.le_refl _)).setc (Nat.le_refl _)).setc (Nat.le_refl _)).alloc _).xt O d, ?_⟩
          rw [e.out, VV.out, Bool.true_and]
          by_cases q : headP ⟨c, b, []⟩ = line
          · rw [if_pos (decide_eq_true q), show (headP ⟨c, b, []⟩ == line) = true by rw [beq_iff_eq]; exact q]
          · rw [if_neg (by rw [decide_eq_false q]; simp), show (headP ⟨c, b, []⟩ == line) = false by rw [beq_eq_false_iff_ne]; exact q]
            exact ⟨_, _, _, _, _, rfl⟩
      · rw [Bool.not_eq_true] at hv
        have HV : Hid (∀ W, Calls Tryz.prog 35 #[.string (bs c)] W fun e w' => e = .returned (.bool false) ∧ W = w') := Lib.hid (fun W => by rw [← hv]; exact vis_any c W (by omega))
        have VV := Lib.hid hv
        clear hv
        go_wp2_with fail
        refine wp_code_eq (c := Code.region 5 (regIn 5 Tryz.f30) true) (by kernel_rfl) (rh5 (w0 := w) (c := c) (b := b) (G1.out.alloc _) (Row.new w1 _ _) (RB.out.alloc _) (by have := RB.out.has; unfold Has at this; omega) (Nat.le_refl _) HV.out ?_)
        intro t3 t24 t25 t26 t27 t28 t29 t30 t31 t32 t33 wx e5 hrow hgr
        subst e5
        have RX := Lib.hid hrow
        have GX := Lib.hid hgr
        unfold rh5A
        clear hrow hgr
        go_wp2_with fail
        have z0 := RX.out.cell 0 (by simp)
        have z1 := RX.out.cell 1 (by simp)
        have z2 := RX.out.cell 2 (by simp)
        simp only [List.getElem_cons_succ, List.getElem_cons_zero] at z0 z1 z2
        refine bodyPost_ret (v := .tuple #[.agg #[.string (bs c), .bool b, .slice none 0 0], .bool false]) (by simp [results, Tryz.results30, go_sem, z0, z1, z2]) rfl ?_
        refine ⟨GX.out, ?_⟩
        rw [e.out, VV.out, Bool.false_and, if_neg (by simp)]
        exact ⟨_, _, _, _, _, rfl⟩
end Go.Proofs.YtadldblpkgackaaGreatDoor

/- Apply of the second reference, where the write is right. -/
import Derived.Test.YtoenkcojfogmmaaRfc
set_option linter.unusedVariables false
set_option linter.unusedSimpArgs false
namespace Go.Proofs.Ytoenkcojfogmmaa
open Go.RowKit
open Classical

/-- A write that is right. -/
def WOk (l : List Sup) (p : Wri) : Prop := (p.kind = 2 ∨ p.kind = 3) ∧ 0 ≤ p.unit ∧ p.unit < l.length ∧ ¬ BadVal l p
theorem WOk.appE {l : List Sup} {r : Rls} {p : Wri} (h : WOk l p) (hr : RlsOk l r) : appE l r p = 0 := by
  obtain ⟨h1, h2, h3, h4⟩ := h
  rw [Go.Proofs.Ytoenkcojfogmmaa.appE, if_pos (begR_of hr.1 (by simp; exact hr)), if_neg (by omega), if_neg (by omega), if_neg h4]
theorem applyR_ok {l : List Sup} {r : Rls} {p : Wri} (h : WOk l p) (hr : RlsOk l r) : RlsOk l (applyR r p) := by
  obtain ⟨h1, h2, h3, h4⟩ := h
  refine ⟨hr.1, by rw [applyR_on_len]; exact hr.2.1, by rw [applyR_lv_len]; exact hr.2.2.1, fun k hk hk' => ?_⟩
  have hk2 : k < r.level.length := by rw [applyR_lv_len] at hk'; exact hk'
  by_cases e : p.kind = 2
  · have hl : (applyR r p).level = r.level.set p.unit.toNat p.value := by rw [applyR, if_pos e]
    simp only [hl, List.getElem_set]
    split
    · rename_i q
      unfold BadVal lvLen at h4
      rw [dif_pos ⟨h2, h3⟩] at h4
      subst q
      constructor <;> omega
    · exact hr.2.2.2 k hk hk2
  · have hl : (applyR r p).level = r.level := by rw [applyR, if_neg e]
    simp only [hl]
    exact hr.2.2.2 k hk hk2

theorem rls_fit' {l : List Sup} {r : Rls} (h : RlsOk l r) : l.length ≤ 16 := by
  have hz := (chk_zero h.1).1
  simp only [Big, not_or] at hz
  omega

set_option maxRecDepth 100000 in
set_option maxHeartbeats 4000000 in
theorem refApply_ok (l : List Sup) (r : Rls) (p : Wri) (ao a1 a2 : Option Addr) (cap c1 c2 : Nat) (w : World) (h : SlOf 5 RSup w ao l) (h1 : SlOf 1 RB w a1 r.on) (h2 : SlOf 1 RI w a2 r.level)
    (hr : RlsOk l r) (hw : WOk l p) :
    Calls Try.prog 31 #[.slice ao l.length cap, .agg #[.slice a1 r.on.length c1, .slice a2 r.level.length c2], .agg #[.int .i64 p.kind, .int .i64 p.unit, .int .i64 p.value]] w (GivesRo w (applyR r p) 0) := by
  have H := Lib.hid h
  have H1 := Lib.hid h1
  have H2 := Lib.hid h2
  have RO := Lib.hid hr
  have WW := Lib.hid hw
  have ff := rls_fit' hr
  have n16 : l.length ≤ 16 := ff
  have n1 := hr.2.1
  have n2 := hr.2.2.1
  have HF : Hid (Fit l.length) := Lib.hid (by unfold Fit; omega)
  have F1 : Hid (Fit r.on.length) := Lib.hid (by unfold Fit; omega)
  have F2 : Hid (Fit r.level.length) := Lib.hid (by unfold Fit; omega)
  obtain ⟨hk, hu0, hu1, hbv⟩ := hw
  obtain ⟨u, hun⟩ := Int.eq_ofNat_of_zero_le hu0
  have hul : u < l.length := by omega
  have u1 : u < r.on.length := by omega
  have u2 : u < r.level.length := by omega
  have M1 : Hid (r.on.length ≤ 1000000 ∧ r.level.length ≤ 1000000) := Lib.hid ⟨by omega, by omega⟩
  have UN := Lib.hid hun
  have hcb := hr.1
  have HRB : Hid (decide (RlsOk l r) = true) := Lib.hid (by simp [hr])
  have hlv : lvLen l p.unit = l[u].levels.length := by simp [lvLen, hun, hul]
  unfold BadVal at hbv
  rw [hlv] at hbv
  have v0 : decide (p.value < 0) = false := by simp; omega
  obtain ⟨b, o, rfl, _, ⟨al, cl, q1, _, _, _⟩, _⟩ := h u hul
  have xq := has_of_cell q1
  have g0 : (0 : Int) ≤ u := by omega
  have g1 : (u : Int) < l.length := by omega
  have g2 : (u : Int) < r.on.length := by omega
  have g3 : (u : Int) < r.level.length := by omega
  have hku := Lib.hid hk
  have HBV := Lib.hid hbv
  clear h h1 h2 hr ff n1 n2 hu0 hu1 hlv
  rw [hun]
  clear hun
  have HC := Lib.hid hcb
  clear hcb
  go_enter Try.func31, Try.ntmps31
  go_wp2_with fail
  refine (refCheck_any l _ cap _ (sups_gr H.out (by repeat (first | with_reducible exact Gr.refl _ | with_reducible refine Gr.alloc _ ?_ | with_reducible refine Gr.xt _ _ ?_ | with_reducible refine Gr.drew ?_)) ) HF.out).mono ?_
  rw [HC.out]
  rintro e w' ⟨rfl, O1, d1, rfl⟩
  go_wp2_with fail
  refine (refRails_any l r _ a1 a2 cap c1 c2 _ (sups_gr H.out (by repeat (first | with_reducible exact Gr.refl _ | with_reducible refine Gr.alloc _ ?_ | with_reducible refine Gr.xt _ _ ?_ | with_reducible refine Gr.drew ?_)) ) HF.out (H1.out.giB (by repeat (first | with_reducible exact Gr.refl _ | with_reducible refine Gr.alloc _ ?_ | with_reducible refine Gr.xt _ _ ?_ | with_reducible refine Gr.drew ?_)) ) (H2.out.giI (by repeat (first | with_reducible exact Gr.refl _ | with_reducible refine Gr.alloc _ ?_ | with_reducible refine Gr.xt _ _ ?_ | with_reducible refine Gr.drew ?_)) ) F1.out F2.out).mono ?_
  rw [HRB.out]
  rintro e w' ⟨rfl, O2, d2, rfl⟩
  rcases hk with hk | hk
  · have K2 := Lib.hid hk
    rw [hk]
    have w1 : decide ((l[u].levels.length : Int) ≤ p.value) = false := by simp; omega
    clear hk hbv
    go_wp2_with fail
    refine wp_region_growsx (by kernel_rfl) (by kernel_rfl) ?_
    repeat (go_big_quiet_step (fail))
    refine wpQuiet_nil ?_
    rintro _ ⟨⟨O5, d5⟩, rfl⟩
    clear q1 xq
    go_wp2_with fail
    refine (refCopied_any r a1 a2 c1 c2 _ (H1.out.giB (by repeat (first | with_reducible exact Gr.refl _ | with_reducible refine Gr.alloc _ ?_ | with_reducible refine Gr.xt _ _ ?_ | with_reducible refine Gr.drew ?_)) ) (H2.out.giI (by repeat (first | with_reducible exact Gr.refl _ | with_reducible refine Gr.alloc _ ?_ | with_reducible refine Gr.xt _ _ ?_ | with_reducible refine Gr.drew ?_)) ) (by omega) (by omega) M1.out.1 M1.out.2).mono ?_
    rintro e W1 ⟨a5, c5, a6, c6, rfl, hc5, hc6, o1, o2, hg⟩
    obtain ⟨B1, rfl, hB1, q1⟩ := o1.at (by simp [bools]; omega)
    obtain ⟨B2, rfl, hB2, q2⟩ := o2.at (by simp [nums]; omega)
    have Q1 := Lib.hid q1
    have Q2 := Lib.hid q2
    have e0 : W1.cell? ⟨w.heap.size + 1, 0, none⟩ = some (.int .i64 2) := cell_gr hg (by simp [go_sem])
    have e1 : W1.cell? ⟨w.heap.size + 1, 1, none⟩ = some (.int .i64 u) := cell_gr hg (by simp [go_sem])
    have e2 : W1.cell? ⟨w.heap.size + 1, 2, none⟩ = some (.int .i64 p.value) := cell_gr hg (by simp [go_sem])
    have x0 := has_of_cell e0
    have r0 : Row W1 (w.heap.size + 2) 31 [.slice none 0 0, .slice none 0 0] := by
      have := Row.new ((w.alloc (.cells #[.slice a1 r.on.length c1, .slice a2 r.level.length c2] 31)).alloc (.cells #[.int .i64 2, .int .i64 u, .int .i64 p.value] 46)) #[.slice none 0 0, .slice none 0 0] 31
      simp only [World.size_alloc] at this
      exact (this.xt _ _).gr hg
    have R0 := Lib.hid r0
    have y0 := r0.cell 0 (by simp)
    have y1 := r0.cell 1 (by simp)
    simp only [List.getElem_cons_zero, List.getElem_cons_succ] at y0 y1
    have y2 := r0.free 0
    have y3 := r0.free 1
    have yh := r0.has
    have sz : w.heap.size + 3 ≤ W1.heap.size := by have := hg.size; simp at this; omega
    have z1 := q1.has
    have z2 := q2.has
    have z3 := q1.free u
    have z4 := q2.free u
    have z5 := q1.bat u u1
    have z6 := q2.iat u u2
    have t1 : B1 ≠ B2 := q1.apart q2 (by decide)
    have t2 : B1 ≠ W1.heap.size := by have : B1 < W1.heap.size := q1.has; omega
    have t3 : B2 ≠ W1.heap.size := by have : B2 < W1.heap.size := q2.has; omega
    have t4 : w.heap.size + 3 ≤ B1 := by simp at hB1; omega
    have t5 : w.heap.size + 3 ≤ B2 := by simp at hB2; omega
    have GW : Hid (Gr w W1) := Lib.hid (Gr.trans (by repeat (first | with_reducible exact Gr.refl _ | with_reducible refine Gr.alloc _ ?_ | with_reducible refine Gr.xt _ _ ?_ | with_reducible refine Gr.drew ?_)) hg)
    clear o1 o2 hg q1 q2 r0 hB1 hB2
    go_wp2_with fail
    refine bodyPost_ret (v := .tuple #[.agg #[.slice (some ⟨B1, 0, none⟩) r.on.length c5, .slice (some ⟨B2, 0, none⟩) r.level.length c6], .int .i64 0]) ?_ rfl ?_
    · simp [results, Try.results31, go_sem, y0, y1, yh, t1, t2, t3, z1, z2]
    · rw [applyR_lv K2.out UN.out]
      refine ⟨some ⟨B1, 0, none⟩, some ⟨B2, 0, none⟩, c5, c6, by simp, by simpa using hc5, by simpa using hc6, ?_, ?_, ?_⟩
      · exact Own1.row (by omega) (by repeat (first | with_reducible exact Q1.out | with_reducible refine RowS.alloc _ ?_ | with_reducible refine RowS.oth ?_ (by omega)))
      · exact Own1.row (by omega) (by repeat (first | with_reducible exact Q2.out.iset u u2 _ | with_reducible refine RowS.alloc _ ?_ | with_reducible refine RowS.oth ?_ (by omega)))
      · repeat (first | with_reducible exact GW.out | with_reducible refine Gr.alloc _ ?_ | with_reducible refine Gr.setc (by omega) ?_)
  · have K2 := Lib.hid hk
    rw [hk]
    have w1 : decide (1 < p.value) = false := by simp; omega
    clear hk hbv
    go_wp2_with fail
    refine wp_region_growsx (by kernel_rfl) (by kernel_rfl) ?_
    repeat (go_big_quiet_step (fail))
    refine wpQuiet_nil ?_
    rintro _ ⟨⟨O5, d5⟩, rfl⟩
    clear q1 xq
    go_wp2_with fail
    refine (refCopied_any r a1 a2 c1 c2 _ (H1.out.giB (by repeat (first | with_reducible exact Gr.refl _ | with_reducible refine Gr.alloc _ ?_ | with_reducible refine Gr.xt _ _ ?_ | with_reducible refine Gr.drew ?_)) ) (H2.out.giI (by repeat (first | with_reducible exact Gr.refl _ | with_reducible refine Gr.alloc _ ?_ | with_reducible refine Gr.xt _ _ ?_ | with_reducible refine Gr.drew ?_)) ) (by omega) (by omega) M1.out.1 M1.out.2).mono ?_
    rintro e W1 ⟨a5, c5, a6, c6, rfl, hc5, hc6, o1, o2, hg⟩
    obtain ⟨B1, rfl, hB1, q1⟩ := o1.at (by simp [bools]; omega)
    obtain ⟨B2, rfl, hB2, q2⟩ := o2.at (by simp [nums]; omega)
    have Q1 := Lib.hid q1
    have Q2 := Lib.hid q2
    have e0 : W1.cell? ⟨w.heap.size + 1, 0, none⟩ = some (.int .i64 3) := cell_gr hg (by simp [go_sem])
    have e1 : W1.cell? ⟨w.heap.size + 1, 1, none⟩ = some (.int .i64 u) := cell_gr hg (by simp [go_sem])
    have e2 : W1.cell? ⟨w.heap.size + 1, 2, none⟩ = some (.int .i64 p.value) := cell_gr hg (by simp [go_sem])
    have x0 := has_of_cell e0
    have r0 : Row W1 (w.heap.size + 2) 31 [.slice none 0 0, .slice none 0 0] := by
      have := Row.new ((w.alloc (.cells #[.slice a1 r.on.length c1, .slice a2 r.level.length c2] 31)).alloc (.cells #[.int .i64 3, .int .i64 u, .int .i64 p.value] 46)) #[.slice none 0 0, .slice none 0 0] 31
      simp only [World.size_alloc] at this
      exact (this.xt _ _).gr hg
    have R0 := Lib.hid r0
    have y0 := r0.cell 0 (by simp)
    have y1 := r0.cell 1 (by simp)
    simp only [List.getElem_cons_zero, List.getElem_cons_succ] at y0 y1
    have y2 := r0.free 0
    have y3 := r0.free 1
    have yh := r0.has
    have sz : w.heap.size + 3 ≤ W1.heap.size := by have := hg.size; simp at this; omega
    have z1 := q1.has
    have z2 := q2.has
    have z3 := q1.free u
    have z4 := q2.free u
    have z5 := q1.bat u u1
    have z6 := q2.iat u u2
    have t1 : B1 ≠ B2 := q1.apart q2 (by decide)
    have t2 : B1 ≠ W1.heap.size := by have : B1 < W1.heap.size := q1.has; omega
    have t3 : B2 ≠ W1.heap.size := by have : B2 < W1.heap.size := q2.has; omega
    have t4 : w.heap.size + 3 ≤ B1 := by simp at hB1; omega
    have t5 : w.heap.size + 3 ≤ B2 := by simp at hB2; omega
    have GW : Hid (Gr w W1) := Lib.hid (Gr.trans (by repeat (first | with_reducible exact Gr.refl _ | with_reducible refine Gr.alloc _ ?_ | with_reducible refine Gr.xt _ _ ?_ | with_reducible refine Gr.drew ?_)) hg)
    clear o1 o2 hg q1 q2 r0 hB1 hB2
    go_wp2_with fail
    refine bodyPost_ret (v := .tuple #[.agg #[.slice (some ⟨B1, 0, none⟩) r.on.length c5, .slice (some ⟨B2, 0, none⟩) r.level.length c6], .int .i64 0]) ?_ rfl ?_
    · simp [results, Try.results31, go_sem, y0, y1, yh, t1, t2, t3, z1, z2]
    · rw [applyR_on (by have := K2.out; omega) UN.out]
      refine ⟨some ⟨B1, 0, none⟩, some ⟨B2, 0, none⟩, c5, c6, by simp, by simpa using hc5, by simpa using hc6, ?_, ?_, ?_⟩
      · exact Own1.row (by omega) (by repeat (first | with_reducible exact Q1.out.bset u u1 _ | with_reducible refine RowS.alloc _ ?_ | with_reducible refine RowS.oth ?_ (by omega)))
      · exact Own1.row (by omega) (by repeat (first | with_reducible exact Q2.out | with_reducible refine RowS.alloc _ ?_ | with_reducible refine RowS.oth ?_ (by omega)))
      · repeat (first | with_reducible exact GW.out | with_reducible refine Gr.alloc _ ?_ | with_reducible refine Gr.setc (by omega) ?_)
end Go.Proofs.Ytoenkcojfogmmaa

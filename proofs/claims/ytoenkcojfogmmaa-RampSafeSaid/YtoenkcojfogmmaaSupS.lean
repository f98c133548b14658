/- Contracts of the reference's functions Rails and Draws. -/
import Derived.Test.YtoenkcojfogmmaaSupR
set_option linter.unusedVariables false
set_option linter.unusedSimpArgs false
namespace Go.Proofs.Ytoenkcojfogmmaa
open Go.RowKit
open Classical

theorem not_rls_len {l : List Sup} {r : Rls} (h : ¬ (chk l = 0 ∧ r.on.length = l.length ∧ r.level.length = l.length)) : ¬ RlsOk l r := fun hr => h ⟨hr.1, hr.2.1, hr.2.2.1⟩
theorem dec_false {p : Prop} (h : ¬ p) : false = decide p := by simp [h]
theorem dec_true {p : Prop} (h : p) : true = decide p := by simp [h]

set_option maxRecDepth 100000 in
set_option maxHeartbeats 1000000 in
theorem refRails_any (l : List Sup) (r : Rls) (ao a1 a2 : Option Addr) (cap c1 c2 : Nat) (w : World) (h : SlOf 5 RSup w ao l) (hf : Fit l.length) (h1 : SlOf 1 RB w a1 r.on) (h2 : SlOf 1 RI w a2 r.level) (f1 : Fit r.on.length) (f2 : Fit r.level.length) :
    Calls Try.prog 19 #[.slice ao l.length cap, .agg #[.slice a1 r.on.length c1, .slice a2 r.level.length c2]] w (Grows w (.bool (decide (RlsOk l r)))) := by
  have H := Lib.hid h
  have H2 := Lib.hid h2
  have cw := chk_wide l
  have hF := Lib.hid hf
  unfold Fit at hf f1 f2
  clear h h1 h2
  by_cases hc : chk l = 0 ∧ r.on.length = l.length ∧ r.level.length = l.length
  · obtain ⟨g1, g2, g3⟩ := hc
    have G := Lib.hid (And.intro g1 (And.intro g2 g3))
    have g2b : ((r.on.length : Int) != (l.length : Int)) = false := by simp [g2]
    have g3b : ((r.level.length : Int) != (l.length : Int)) = false := by simp [g3]
    clear g2 g3
    go_enter Try.func19, Try.ntmps19
    go_wp2_with fail
    refine (refCheck_any l ao cap _ (sups_gr H.out (by repeat (first | with_reducible exact Gr.refl _ | with_reducible refine Gr.alloc _ ?_))) hF.out).mono ?_
    rw [g1]
    rintro e w' ⟨rfl, O1, d1, rfl⟩
    go_wp2_with fail
    clear g1 g2b g3b
    obtain ⟨w0, hw0⟩ : ∃ w0 : World, Hid (w0 = w.alloc (.cells #[.slice a1 r.on.length c1, .slice a2 r.level.length c2] 31)) := ⟨_, Lib.hid rfl⟩
    go_loopw [28] (fun i wr => ∃ k : Nat, k ≤ l.length ∧ i = .int .i64 k ∧ (∀ j (q1 : j < l.length) (q2 : j < r.level.length), j < k → 0 ≤ r.level[j] ∧ r.level[j] ≤ (l[j].levels.length : Int) - 1) ∧ Gr w0 wr) (fun i _ => l.length - (intOf i).toNat)
    case atStart => exact ⟨0, Nat.zero_le _, rfl, fun j _ _ q => absurd q (by omega), by rw [hw0.out]; exact (Gr.refl _).xt _ _⟩
    case round =>
      obtain ⟨k, hk, rfl, hall, hg⟩ := hrel
      have HA := Lib.hid hall
      have G0 := Lib.hid hg
      have e1 : wr.cell? ⟨w.heap.size, 1, none⟩ = some (.slice a2 r.level.length c2) := by rw [hw0.out] at hg; exact cell_gr hg (by simp [go_sem])
      have HG : Hid (Gr w wr) := Lib.hid (((Gr.refl w).alloc _).trans (hw0.out ▸ hg))
      clear hall hg
      have e1h := has_of_cell e1
      by_cases hlt : k < l.length
      · have hlt2 : k < r.level.length := by have := G.out.2.2; omega
        obtain ⟨b, o, rfl, ⟨c0, _⟩, ⟨al, cl, c1, c1l, c1f, cL⟩, ⟨c2, _⟩, ⟨c3, _⟩, c4⟩ := sups_gr H.out HG.out k hlt
        unfold RB at c4
        unfold Fit at c1f
        obtain ⟨bl, ol, rfl, ⟨d1, d1w, d1x⟩⟩ := (H2.out.giI HG.out).one k hlt2
        have d1h := has_of_cell d1
        have G0' := G0
        go_wp2_with fail
        refine wp_region_grows (by kernel_rfl) (by kernel_rfl) ?_
        repeat (go_big_quiet_step ((go_at_call 50; exact calls_same (in_any _ _ _ _))))
        refine wpQuiet_nil ?_
        rintro _ ⟨⟨O5, d5⟩, rfl⟩
        go_wp2_with fail
        all_goals (try simp only [Bool.not_eq_eq_eq_not, Bool.not_false, Bool.not_true, decide_eq_true_eq, decide_eq_false_iff_not, Bool.and_eq_true, Bool.and_eq_false_iff] at *)
        all_goals first
          | (go_ret; exact ⟨ret_bool (dec_false (fun hr => by have := hr.2.2.2 k hlt hlt2; omega)), by repeat (first | with_reducible exact HG.out | with_reducible refine Gr.alloc _ ?_ | with_reducible refine Gr.xt _ _ ?_)⟩)
          | (go_roundw; (case rel => exact ⟨k + 1, by omega, by go_num, fun j q1 q2 hj => by (by_cases e : j = k); (· subst e; omega); (· exact HA.out j q1 q2 (by omega)), by repeat (first | with_reducible exact G0'.out | with_reducible refine Gr.alloc _ ?_ | with_reducible refine Gr.xt _ _ ?_)⟩); (case measure => simp [intOf]; omega))
      · go_wp2_with fail
        go_ret
        exact ⟨ret_bool (dec_true ⟨G.out.1, G.out.2.1, G.out.2.2, fun j q1 q2 => HA.out j q1 q2 (by omega)⟩), HG.out⟩
  · have hN := Lib.hid (not_rls_len hc)
    by_cases g1 : chk l = 0
    · by_cases g2 : r.on.length = l.length
      · have g2b : ((r.on.length : Int) != (l.length : Int)) = false := by simp [g2]
        have g3b : ((r.level.length : Int) != (l.length : Int)) = true := by simp; omega
        clear g2 hc
        go_enter Try.func19, Try.ntmps19
        go_wp2_with fail
        refine (refCheck_any l ao cap _ (sups_gr H.out (by repeat (first | with_reducible exact Gr.refl _ | with_reducible refine Gr.alloc _ ?_))) hF.out).mono ?_
        rw [g1]
        rintro e w' ⟨rfl, O1, d1, rfl⟩
        go_wp2_with fail
        go_ret
        exact ⟨ret_bool (dec_false hN.out), by repeat (first | with_reducible exact Gr.refl _ | with_reducible refine Gr.alloc _ ?_ | with_reducible refine Gr.xt _ _ ?_)⟩
      · have g2b : ((r.on.length : Int) != (l.length : Int)) = true := by simp; omega
        clear g2 hc
        go_enter Try.func19, Try.ntmps19
        go_wp2_with fail
        refine (refCheck_any l ao cap _ (sups_gr H.out (by repeat (first | with_reducible exact Gr.refl _ | with_reducible refine Gr.alloc _ ?_))) hF.out).mono ?_
        rw [g1]
        rintro e w' ⟨rfl, O1, d1, rfl⟩
        go_wp2_with fail
        go_ret
        exact ⟨ret_bool (dec_false hN.out), by repeat (first | with_reducible exact Gr.refl _ | with_reducible refine Gr.alloc _ ?_ | with_reducible refine Gr.xt _ _ ?_)⟩
    · have g1b : (chk l != 0) = true := by simp [g1]
      clear g1 hc
      go_enter Try.func19, Try.ntmps19
      go_wp2_with fail
      refine (refCheck_any l ao cap _ (sups_gr H.out (by repeat (first | with_reducible exact Gr.refl _ | with_reducible refine Gr.alloc _ ?_))) hF.out).mono ?_
      rintro e w' ⟨rfl, O1, d1, rfl⟩
      go_wp2_with fail
      go_ret
      exact ⟨ret_bool (dec_false hN.out), by repeat (first | with_reducible exact Gr.refl _ | with_reducible refine Gr.alloc _ ?_ | with_reducible refine Gr.xt _ _ ?_)⟩

set_option maxRecDepth 100000 in
set_option maxHeartbeats 1000000 in
theorem refDraws_any (l : List Sup) (d : List Drw) (ao a1 : Option Addr) (cap c1 : Nat) (w : World) (h : SlOf 5 RSup w ao l) (hf : Fit l.length) (h1 : SlOf 4 RDrw w a1 d) (f1 : Fit d.length) :
    Calls Try.prog 46 #[.slice ao l.length cap, .slice a1 d.length c1] w (Grows w (.bool (decide (DrwsOk l d)))) := by
  have H := Lib.hid h
  have H1 := Lib.hid h1
  have cw := chk_wide l
  have hF := Lib.hid hf
  unfold Fit at hf f1
  clear h h1
  by_cases g1 : chk l = 0
  · by_cases g2 : d.length ≤ 32
    · have G := Lib.hid g1
      go_enter Try.func46, Try.ntmps46
      go_wp2_with fail
      refine (refCheck_any l ao cap _ H.out hF.out).mono ?_
      rw [g1]
      rintro e w' ⟨rfl, O1, d1, rfl⟩
      go_wp2_with fail
      clear g1
      go_loopw [17] (fun i wr => ∃ k : Nat, k ≤ d.length ∧ i = .int .i64 k ∧ (∀ j (q1 : j < d.length), j < k → DrwOk l d[j]) ∧ Gr w wr) (fun i _ => d.length - (intOf i).toNat)
      case atStart => exact ⟨0, Nat.zero_le _, rfl, fun j _ q => absurd q (by omega), (Gr.refl _).xt _ _⟩
      case round =>
        obtain ⟨k, hk, rfl, hall, hg⟩ := hrel
        have HA := Lib.hid hall
        have HG := Lib.hid hg
        clear hall hg
        by_cases hlt : k < d.length
        · obtain ⟨b, o, rfl, ⟨c0, _⟩, ⟨c1, _⟩, ⟨c2, _⟩, ⟨c3, _⟩⟩ := drws_gr H1.out HG.out k hlt
          go_wp2_with (go_at_call 50; refine (in_any _ _ _ _).mono ?_; rintro e w' ⟨rfl, rfl⟩)
          all_goals (try simp only [Bool.not_eq_eq_eq_not, Bool.not_false, Bool.not_true, decide_eq_true_eq, decide_eq_false_iff_not, Bool.and_eq_true, Bool.and_eq_false_iff] at *)
          all_goals first
            | (go_ret; exact ⟨ret_bool (dec_false (fun hr => by have := hr.2.2 k hlt; unfold DrwOk at this; omega)), by repeat (first | with_reducible exact HG.out | with_reducible refine Gr.alloc _ ?_ | with_reducible refine Gr.xt _ _ ?_)⟩)
            | (go_roundw; (case rel => exact ⟨k + 1, by omega, by go_num, fun j q1 hj => by (by_cases e : j = k); (· subst e; unfold DrwOk; omega); (· exact HA.out j q1 (by omega)), by repeat (first | with_reducible exact HG.out | with_reducible refine Gr.alloc _ ?_ | with_reducible refine Gr.xt _ _ ?_)⟩); (case measure => simp [intOf]; omega))
        · go_wp2_with fail
          go_ret
          exact ⟨ret_bool (dec_true ⟨G.out, g2, fun j q1 => HA.out j q1 (by omega)⟩), HG.out⟩
    · go_enter Try.func46, Try.ntmps46
      go_wp2_with fail
      refine (refCheck_any l ao cap _ H.out hF.out).mono ?_
      rw [g1]
      rintro e w' ⟨rfl, O1, d1, rfl⟩
      go_wp2_with fail
      go_ret
      exact ⟨ret_bool (dec_false (fun hr => g2 hr.2.1)), (Gr.refl _).xt _ _⟩
  · have g1b : (chk l != 0) = true := by simp [g1]
    have G := Lib.hid g1
    clear g1
    go_enter Try.func46, Try.ntmps46
    go_wp2_with fail
    refine (refCheck_any l ao cap _ H.out hF.out).mono ?_
    rintro e w' ⟨rfl, O1, d1, rfl⟩
    go_wp2_with fail
    go_ret
    exact ⟨ret_bool (dec_false (fun hr => G.out hr.1)), (Gr.refl _).xt _ _⟩
end Go.Proofs.Ytoenkcojfogmmaa

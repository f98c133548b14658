/- SameRails of the reference; ramp.Join. -/
import Derived.Test.YtoenkcojfogmmaaRmpF
set_option linter.unusedVariables false
set_option linter.unusedSimpArgs false
namespace Go.Proofs.Ytoenkcojfogmmaa
open Go.RowKit
open Classical

set_option maxRecDepth 100000 in
set_option maxHeartbeats 1000000 in
theorem sameB_any (xs ys : List Bool) (a1 a2 : Option Addr) (c1 c2 : Nat) (w : World) (h1 : SlOf 1 RB w a1 xs) (h2 : SlOf 1 RB w a2 ys) (f1 : Fit xs.length) (f2 : Fit ys.length) :
    Calls Try.prog 48 #[.slice a1 xs.length c1, .slice a2 ys.length c2] w (Grows w (.bool (decide (xs = ys)))) := by
  have H1 := Lib.hid h1
  have H2 := Lib.hid h2
  unfold Fit at f1 f2
  clear h1 h2
  by_cases hl : xs.length = ys.length
  · have HL := Lib.hid hl
    rw [← hl]
    clear hl f2
    go_enter Try.func48, Try.ntmps48
    go_wp2_with fail
    go_loopw [13] (fun i wr => ∃ k : Nat, k ≤ xs.length ∧ i = .int .i64 k ∧ (∀ j (h : j < xs.length) (h' : j < ys.length), j < k → xs[j] = ys[j]) ∧ Gr w wr) (fun i _ => xs.length - (intOf i).toNat)
    case atStart => exact ⟨0, Nat.zero_le _, rfl, fun j _ _ h => absurd h (by omega), Gr.refl _⟩
    case round =>
      obtain ⟨k, hk, rfl, hall, hg⟩ := hrel
      have HA := Lib.hid hall
      have HG := Lib.hid hg
      clear hall hg
      by_cases hlt : k < xs.length
      · have hlt' : k < ys.length := by have := HL.out; omega
        obtain ⟨b1, o1, rfl, e1⟩ := (H1.out.giB HG.out).one k hlt
        obtain ⟨b2, o2, rfl, e2⟩ := (H2.out.giB HG.out).one k hlt'
        unfold RB at e1 e2
        have x1 := has_of_cell e1
        have x2 := has_of_cell e2
        have g0 : (0 : Int) ≤ k := by omega
        have g1 : (k : Int) < xs.length := by omega
        by_cases hq : xs[k] = ys[k]
        · have Q := Lib.hid hq
          have hqb : (xs[k] == ys[k]) = true := by simp [hq]
          clear hq
          go_wp2_with fail
          refine wp_region_grows (by kernel_rfl) (by kernel_rfl) ?_
          repeat (go_big_quiet_step (fail))
          refine wpQuiet_nil ?_
          rintro _ ⟨⟨O5, d5⟩, rfl⟩
          go_wp2_with fail
          go_roundw
          case rel =>
            refine ⟨k + 1, by omega, by go_num, fun j q1 q2 hj => ?_, HG.out.xt _ _⟩
            by_cases e : j = k
            · subst e; exact Q.out
            · exact HA.out j q1 q2 (by omega)
          case measure => simp [intOf]; omega
        · have Q := Lib.hid hq
          have hqb : (xs[k] == ys[k]) = false := by simp [hq]
          clear hq
          go_wp2_with fail
          refine wp_region_grows (by kernel_rfl) (by kernel_rfl) ?_
          repeat (go_big_quiet_step (fail))
          refine wpQuiet_nil ?_
          rintro _ ⟨⟨O5, d5⟩, rfl⟩
          go_wp2_with fail
          go_ret
          exact ⟨ret_bool (decide_eq_false (fun e => Q.out (by simp [e]))).symm, HG.out.xt _ _⟩
      · go_wp2_with fail
        go_ret
        exact ⟨ret_bool (decide_eq_true (List.ext_getElem HL.out fun j q1 q2 => HA.out j q1 q2 (by omega))).symm, HG.out⟩
  · have hlb : ((xs.length : Int) != ys.length) = true := by simp; omega
    go_enter Try.func48, Try.ntmps48
    go_wp2_with fail
    go_ret
    exact ⟨ret_bool (decide_eq_false (fun e => hl (by rw [e]))).symm, Gr.refl _⟩

set_option maxRecDepth 100000 in
set_option maxHeartbeats 1000000 in
theorem sameI_any (xs ys : List Int) (a1 a2 : Option Addr) (c1 c2 : Nat) (w : World) (h1 : SlOf 1 RI w a1 xs) (h2 : SlOf 1 RI w a2 ys) (f1 : Fit xs.length) (f2 : Fit ys.length) :
    Calls Try.prog 49 #[.slice a1 xs.length c1, .slice a2 ys.length c2] w (Grows w (.bool (decide (xs = ys)))) := by
  have H1 := Lib.hid h1
  have H2 := Lib.hid h2
  unfold Fit at f1 f2
  clear h1 h2
  by_cases hl : xs.length = ys.length
  · have HL := Lib.hid hl
    rw [← hl]
    clear hl f2
    go_enter Try.func49, Try.ntmps49
    go_wp2_with fail
    go_loopw [13] (fun i wr => ∃ k : Nat, k ≤ xs.length ∧ i = .int .i64 k ∧ (∀ j (h : j < xs.length) (h' : j < ys.length), j < k → xs[j] = ys[j]) ∧ Gr w wr) (fun i _ => xs.length - (intOf i).toNat)
    case atStart => exact ⟨0, Nat.zero_le _, rfl, fun j _ _ h => absurd h (by omega), Gr.refl _⟩
    case round =>
      obtain ⟨k, hk, rfl, hall, hg⟩ := hrel
      have HA := Lib.hid hall
      have HG := Lib.hid hg
      clear hall hg
      by_cases hlt : k < xs.length
      · have hlt' : k < ys.length := by have := HL.out; omega
        obtain ⟨b1, o1, rfl, e1, _⟩ := (H1.out.giI HG.out).one k hlt
        obtain ⟨b2, o2, rfl, e2, _⟩ := (H2.out.giI HG.out).one k hlt'
        have x1 := has_of_cell e1
        have x2 := has_of_cell e2
        have g0 : (0 : Int) ≤ k := by omega
        have g1 : (k : Int) < xs.length := by omega
        by_cases hq : xs[k] = ys[k]
        · have Q := Lib.hid hq
          have hqb : (xs[k] != ys[k]) = false := by simp [hq]
          clear hq
          go_wp2_with fail
          refine wp_region_grows (by kernel_rfl) (by kernel_rfl) ?_
          repeat (go_big_quiet_step (fail))
          refine wpQuiet_nil ?_
          rintro _ ⟨⟨O5, d5⟩, rfl⟩
          go_wp2_with fail
          go_roundw
          case rel =>
            refine ⟨k + 1, by omega, by go_num, fun j q1 q2 hj => ?_, HG.out.xt _ _⟩
            by_cases e : j = k
            · subst e; exact Q.out
            · exact HA.out j q1 q2 (by omega)
          case measure => simp [intOf]; omega
        · have Q := Lib.hid hq
          have hqb : (xs[k] != ys[k]) = true := by simp [hq]
          clear hq
          go_wp2_with fail
          refine wp_region_grows (by kernel_rfl) (by kernel_rfl) ?_
          repeat (go_big_quiet_step (fail))
          refine wpQuiet_nil ?_
          rintro _ ⟨⟨O5, d5⟩, rfl⟩
          go_wp2_with fail
          go_ret
          exact ⟨ret_bool (decide_eq_false (fun e => Q.out (by simp [e]))).symm, HG.out.xt _ _⟩
      · go_wp2_with fail
        go_ret
        exact ⟨ret_bool (decide_eq_true (List.ext_getElem HL.out fun j q1 q2 => HA.out j q1 q2 (by omega))).symm, HG.out⟩
  · have hlb : ((xs.length : Int) != ys.length) = true := by simp; omega
    go_enter Try.func49, Try.ntmps49
    go_wp2_with fail
    go_ret
    exact ⟨ret_bool (decide_eq_false (fun e => hl (by rw [e]))).symm, Gr.refl _⟩

set_option maxRecDepth 100000 in
set_option maxHeartbeats 1000000 in
theorem sameRails_any (a b : Rls) (a1 a2 a3 a4 : Option Addr) (c1 c2 c3 c4 : Nat) (w : World) (h1 : SlOf 1 RB w a1 a.on) (h2 : SlOf 1 RI w a2 a.level) (h3 : SlOf 1 RB w a3 b.on) (h4 : SlOf 1 RI w a4 b.level) (f1 : Fit a.on.length) (f2 : Fit a.level.length) (f3 : Fit b.on.length) (f4 : Fit b.level.length) :
    Calls Try.prog 18 #[.agg #[.slice a1 a.on.length c1, .slice a2 a.level.length c2], .agg #[.slice a3 b.on.length c3, .slice a4 b.level.length c4]] w (Grows w (.bool (decide (a = b)))) := by
  have H1 := Lib.hid h1
  have H2 := Lib.hid h2
  have H3 := Lib.hid h3
  have H4 := Lib.hid h4
  clear h1 h2 h3 h4
  have key : (a = b) ↔ a.on = b.on ∧ a.level = b.level := by
    cases a; cases b; simp
  have KEY := Lib.hid key
  clear key
  go_enter Try.func18, Try.ntmps18
  go_wp2_with fail
  refine (sameB_any a.on b.on a1 a3 c1 c3 _ (H1.out.giB (by repeat (first | with_reducible exact Gr.refl _ | with_reducible refine Gr.alloc _ ?_ | with_reducible refine Gr.xt _ _ ?_ | with_reducible refine Gr.drew ?_))) (H3.out.giB (by repeat (first | with_reducible exact Gr.refl _ | with_reducible refine Gr.alloc _ ?_ | with_reducible refine Gr.xt _ _ ?_ | with_reducible refine Gr.drew ?_))) f1 f3).mono ?_
  by_cases e1 : a.on = b.on
  · rw [decide_eq_true e1]
    have E1 := Lib.hid e1
    clear e1
    rintro e w' ⟨rfl, O, d, rfl⟩
    go_wp2_with fail
    refine (sameI_any a.level b.level a2 a4 c2 c4 _ (H2.out.giI (by repeat (first | with_reducible exact Gr.refl _ | with_reducible refine Gr.alloc _ ?_ | with_reducible refine Gr.xt _ _ ?_ | with_reducible refine Gr.drew ?_))) (H4.out.giI (by repeat (first | with_reducible exact Gr.refl _ | with_reducible refine Gr.alloc _ ?_ | with_reducible refine Gr.xt _ _ ?_ | with_reducible refine Gr.drew ?_))) f2 f4).mono ?_
    rintro e w' ⟨rfl, O2, d2, rfl⟩
    go_wp2_with fail
    go_ret
    exact ⟨ret_bool (by by_cases q : a.level = b.level <;> simp [KEY.out, E1.out, q]), by repeat (first | with_reducible exact Gr.refl _ | with_reducible refine Gr.alloc _ ?_ | with_reducible refine Gr.xt _ _ ?_ | with_reducible refine Gr.drew ?_)⟩
  · rw [decide_eq_false e1]
    have E1 := Lib.hid e1
    clear e1
    rintro e w' ⟨rfl, O, d, rfl⟩
    go_wp2_with fail
    go_ret
    exact ⟨ret_bool (by simp [KEY.out, E1.out]), by repeat (first | with_reducible exact Gr.refl _ | with_reducible refine Gr.alloc _ ?_ | with_reducible refine Gr.xt _ _ ?_ | with_reducible refine Gr.drew ?_)⟩

theorem xt_far (W : World) (O : Array Obj) (d k : Nat) (hk : W.heap.size ≤ k) : (xt W O d).heap[k]? = O[k - W.heap.size]? := by
  simp only [xt]
  rw [Array.getElem?_append_right hk]
theorem Own1.far {base : Nat} {W W' : World} {O : Array Obj} {d d' T : Nat} {vs : List Value} {a : Option Addr} (hs : W.heap.size = W'.heap.size) (h : Own1 base (xt W O d) T vs a) (hb : W.heap.size ≤ base) : Own1 base (xt W' O d') T vs a := by
  rcases h with h | ⟨B, e, hB, r, h⟩
  · exact .inl h
  · refine .inr ⟨B, e, hB, r, ?_⟩
    unfold Row at *
    rw [xt_far _ _ _ _ (by omega)] at h ⊢
    rw [← hs]; exact h
/-- The call returns rails and an error. -/
def GivesR (w : World) (r : Rls) (x : Int) (e : Ending) (w' : World) : Prop :=
  ∃ a1 a2 c1 c2, e = .returned (.tuple #[.agg #[.slice a1 r.on.length c1, .slice a2 r.level.length c2], .int .i64 x]) ∧ r.on.length ≤ c1 ∧ r.level.length ≤ c2 ∧ SlOf 1 RB w' a1 r.on ∧ SlOf 1 RI w' a2 r.level ∧ Gr w w'
theorem givesR_no {w w' : World} {x : Int} (hg : Gr w w') : GivesR w noRls x (.returned (.tuple #[.agg #[.slice none 0 0, .slice none 0 0], .int .i64 x])) w' :=
  ⟨none, none, 0, 0, rfl, Nat.le_refl _, Nat.le_refl _, SlOf.nil _ _ _ _, SlOf.nil _ _ _ _, hg⟩
noncomputable def joinP (l : List Sup) (a b : Rls) : Rls := if begR l [a, b] = 0 then joinR a b else noRls
theorem lv_wide {r : Rls} (h : ∀ k, Wide (lvAt r k)) (k : Nat) (hk : k < r.level.length) : Wide r.level[k] := by rw [← lvAt_eq hk]; exact h k

set_option maxRecDepth 100000 in
set_option maxHeartbeats 1000000 in
theorem bigJoin_any (l : List Sup) (a b : Rls) (ao a1 a2 a3 a4 : Option Addr) (cap c1 c2 c3 c4 : Nat) (w : World) (h : SlOf 5 RSup w ao l) (hf : Fit l.length) (h1 : SlOf 1 RB w a1 a.on) (h2 : SlOf 1 RI w a2 a.level) (h3 : SlOf 1 RB w a3 b.on) (h4 : SlOf 1 RI w a4 b.level)
    (k1 : a.on.length ≤ c1) (k2 : a.level.length ≤ c2) (k3 : b.on.length ≤ c3) (k4 : b.level.length ≤ c4) (f1 : Fit a.on.length) (f2 : Fit a.level.length) (f3 : Fit b.on.length) (f4 : Fit b.level.length) :
    Calls Try.prog 14 #[.slice ao l.length cap, .agg #[.slice a1 a.on.length c1, .slice a2 a.level.length c2], .agg #[.slice a3 b.on.length c3, .slice a4 b.level.length c4]] w (GivesR w (joinP l a b) (begR l [a, b])) := by
  have H := Lib.hid h
  have H1 := Lib.hid h1
  have H2 := Lib.hid h2
  have H3 := Lib.hid h3
  have H4 := Lib.hid h4
  have HF := Lib.hid hf
  have F1 := Lib.hid f1
  have F2 := Lib.hid f2
  have F3 := Lib.hid f3
  have F4 := Lib.hid f4
  clear h h1 h2 h3 h4 hf f1 f2 f3 f4
  have K : Hid (a.on.length ≤ c1 ∧ a.level.length ≤ c2 ∧ b.on.length ≤ c3 ∧ b.level.length ≤ c4) := Lib.hid ⟨k1, k2, k3, k4⟩
  clear k1 k2 k3 k4
  go_enter Try.func14, Try.ntmps14
  go_wp2_with fail
  refine (begin_any l [a, b] ao _ cap 2 _ (sups_gr H.out (by repeat (first | with_reducible exact Gr.refl _ | with_reducible refine Gr.alloc _ ?_ | with_reducible refine Gr.xt _ _ ?_ | with_reducible refine Gr.drew ?_))) HF.out (two_rls (a1 := a1) (a2 := a2) (a3 := a3) (a4 := a4) (c1 := c1) (c2 := c2) (c3 := c3) (c4 := c4) (by simp [go_sem]) (by simp [go_sem]) (by simp [go_sem]) (by simp [go_sem]) (H1.out.giB (by repeat (first | with_reducible exact Gr.refl _ | with_reducible refine Gr.alloc _ ?_ | with_reducible refine Gr.xt _ _ ?_ | with_reducible refine Gr.drew ?_))) (H2.out.giI (by repeat (first | with_reducible exact Gr.refl _ | with_reducible refine Gr.alloc _ ?_ | with_reducible refine Gr.xt _ _ ?_ | with_reducible refine Gr.drew ?_))) (H3.out.giB (by repeat (first | with_reducible exact Gr.refl _ | with_reducible refine Gr.alloc _ ?_ | with_reducible refine Gr.xt _ _ ?_ | with_reducible refine Gr.drew ?_))) (H4.out.giI (by repeat (first | with_reducible exact Gr.refl _ | with_reducible refine Gr.alloc _ ?_ | with_reducible refine Gr.xt _ _ ?_ | with_reducible refine Gr.drew ?_))) K.out.1 K.out.2.1 K.out.2.2.1 K.out.2.2.2 F1.out F2.out F3.out F4.out) (by unfold Fit; simp)).mono ?_
  rintro e w' ⟨rfl, O1, d1, rfl⟩
  by_cases hb : begR l [a, b] = 0
  · have HB := Lib.hid hb
    rw [hb]
    have hz := begR_zero hb
    have ra := Lib.hid (hz.2 a (by simp))
    have rb := Lib.hid (hz.2 b (by simp))
    have n16 : l.length ≤ 16 := by
      have := (chk_zero hz.1).1
      simp only [Big, not_or] at this
      omega
    clear hz hb
    go_wp2_with fail
    refine (join_any a b l.length a1 a2 a3 a4 c1 c2 c3 c4 _ (H1.out.giB (by repeat (first | with_reducible exact Gr.refl _ | with_reducible refine Gr.alloc _ ?_ | with_reducible refine Gr.xt _ _ ?_ | with_reducible refine Gr.drew ?_))) (H2.out.giI (by repeat (first | with_reducible exact Gr.refl _ | with_reducible refine Gr.alloc _ ?_ | with_reducible refine Gr.xt _ _ ?_ | with_reducible refine Gr.drew ?_))) (H3.out.giB (by repeat (first | with_reducible exact Gr.refl _ | with_reducible refine Gr.alloc _ ?_ | with_reducible refine Gr.xt _ _ ?_ | with_reducible refine Gr.drew ?_))) (H4.out.giI (by repeat (first | with_reducible exact Gr.refl _ | with_reducible refine Gr.alloc _ ?_ | with_reducible refine Gr.xt _ _ ?_ | with_reducible refine Gr.drew ?_))) ra.out.2.1 ra.out.2.2.1 rb.out.2.1 rb.out.2.2.1 n16).mono ?_
    rintro e w' ⟨a6, c6, a7, c7, rfl, hc6, hc7, o1, o2, O2, d2, rfl⟩
    have O6 := Lib.hid o1
    have O7 := Lib.hid o2
    clear o1 o2
    go_wp2_with fail
    refine bodyPost_ret (v := .tuple #[.agg #[.slice a6 (joinR a b).on.length c6, .slice a7 (joinR a b).level.length c7], .int .i64 0]) ?_ rfl ?_
    · simp [results, Try.results14, go_sem]
    · have hP : joinP l a b = joinR a b := by rw [joinP, if_pos HB.out]
      rw [hP, HB.out]
      have q1 := O6.out
      have q2 := O7.out
      simp only [xt_xt, xt_drew] at q1 q2
      refine ⟨a6, a7, c6, c7, rfl, hc6, hc7, (Own1.far (by simp) q1 (by simp <;> omega)).slB, (Own1.far (by simp) q2 (by simp <;> omega)).slI (lv_wide (join_wide (rls_wide ra.out) (rls_wide rb.out))), by repeat (first | with_reducible exact Gr.refl _ | with_reducible refine Gr.alloc _ ?_ | with_reducible refine Gr.xt _ _ ?_ | with_reducible refine Gr.drew ?_)⟩
  · have hbb : (begR l [a, b] != 0) = true := by simpa using hb
    have HB := Lib.hid hb
    clear hb
    go_wp2_with fail
    refine bodyPost_ret (v := .tuple #[.agg #[.slice none 0 0, .slice none 0 0], .int .i64 (begR l [a, b])]) ?_ rfl ?_
    · simp [results, Try.results14, go_sem]
    · rw [joinP, if_neg HB.out]
      exact givesR_no (by repeat (first | with_reducible exact Gr.refl _ | with_reducible refine Gr.alloc _ ?_ | with_reducible refine Gr.xt _ _ ?_ | with_reducible refine Gr.drew ?_))
end Go.Proofs.Ytoenkcojfogmmaa

/- Lemmas and contracts for the proof of RampAnswers (several texts in one, printed by wip/tools/pack.py): ZRmpH ZRmpJ ZRfc ZRfd ZRfe RqJ RqP. -/
import Derived.Test.YtoenkcojfogmmaaRm8pe
import Derived.Deep.RegionLaw
import Derived.Deep.AppendLies
set_option maxRecDepth 100000
set_option maxHeartbeats 16000000
set_option linter.unusedVariables false
set_option linter.unusedSimpArgs false
namespace Go.Proofs.Ytoenkcojfogmmaa
open Go.RowKit
open Classical
theorem sameB_any (xs ys : List Bool) (a1 a2 : Option Addr) (c1 c2 : Nat) (w : World) (h1 : SlOf 1 RB w a1 xs) (h2 : SlOf 1 RB w a2 ys) (f1 : Fit xs.length) (f2 : Fit ys.length) :
    Calls Try.prog 48 #[.slice a1 xs.length c1, .slice a2 ys.length c2] w (Grows w (.bool (decide (xs = ys)))) := by
  have H1 := Lib.hid h1
  have H2 := Lib.hid h2
  unfold Fit at f1 f2
  clear h1 h2
  by_cases hl : xs.length = ys.length
  · have HL := Lib.hid hl
    rw [← hl]
    clear hl f2
    go_enter Try.func48, Try.ntmps48
    go_wp2_with fail
    go_loopw [13] (fun i wr => ∃ k : Nat, k ≤ xs.length ∧ i = .int .i64 k ∧ (∀ j (h : j < xs.length) (h' : j < ys.length), j < k → xs[j] = ys[j]) ∧ Gr w wr) (fun i _ => xs.length - (intOf i).toNat)
    case atStart => exact ⟨0, Nat.zero_le _, rfl, fun j _ _ h => absurd h (by omega), Gr.refl _⟩
    case round =>
      obtain ⟨k, hk, rfl, hall, hg⟩ := hrel
      have HA := Lib.hid hall
      have HG := Lib.hid hg
      clear hall hg
      by_cases hlt : k < xs.length
      · have hlt' : k < ys.length := by have := HL.out; omega
        obtain ⟨b1, o1, rfl, e1⟩ := (H1.out.giB HG.out).one k hlt
        obtain ⟨b2, o2, rfl, e2⟩ := (H2.out.giB HG.out).one k hlt'
        unfold RB at e1 e2
        have x1 := has_of_cell e1
        have x2 := has_of_cell e2
        have g0 : (0 : Int) ≤ k := by omega
        have g1 : (k : Int) < xs.length := by omega
        by_cases hq : xs[k] = ys[k]
        · have Q := Lib.hid hq
          have hqb : (xs[k] == ys[k]) = true := by simp [hq]
          clear hq
          go_wp2_with fail
          refine wp_region_grows (by kernel_rfl) (by kernel_rfl) ?_
          repeat (go_big_quiet_step (fail))
          refine wpQuiet_nil ?_
          rintro _ ⟨⟨O5, d5⟩, rfl⟩
          go_wp2_with fail
          go_roundw
          case rel =>
            refine ⟨k + 1, by omega, by go_num, fun j q1 q2 hj => ?_, HG.out.xt _ _⟩
            by_cases e : j = k
            · subst e; exact Q.out
            · exact HA.out j q1 q2 (by omega)
          case measure => simp [intOf]; omega
        · have Q := Lib.hid hq
          have hqb : (xs[k] == ys[k]) = false := by simp [hq]
          clear hq
          go_wp2_with fail
          refine wp_region_grows (by kernel_rfl) (by kernel_rfl) ?_
          repeat (go_big_quiet_step (fail))
          refine wpQuiet_nil ?_
          rintro _ ⟨⟨O5, d5⟩, rfl⟩
          go_wp2_with fail
          go_ret
          exact ⟨ret_bool (decide_eq_false (fun e => Q.out (by simp [e]))).symm, HG.out.xt _ _⟩
      · go_wp2_with fail
        go_ret
        exact ⟨ret_bool (decide_eq_true (List.ext_getElem HL.out fun j q1 q2 => HA.out j q1 q2 (by omega))).symm, HG.out⟩
  · have hlb : ((xs.length : Int) != ys.length) = true := by simp; omega
    go_enter Try.func48, Try.ntmps48
    go_wp2_with fail
    go_ret
    exact ⟨ret_bool (decide_eq_false (fun e => hl (by rw [e]))).symm, Gr.refl _⟩
theorem sameI_any (xs ys : List Int) (a1 a2 : Option Addr) (c1 c2 : Nat) (w : World) (h1 : SlOf 1 RI w a1 xs) (h2 : SlOf 1 RI w a2 ys) (f1 : Fit xs.length) (f2 : Fit ys.length) :
    Calls Try.prog 49 #[.slice a1 xs.length c1, .slice a2 ys.length c2] w (Grows w (.bool (decide (xs = ys)))) := by
  have H1 := Lib.hid h1
  have H2 := Lib.hid h2
  unfold Fit at f1 f2
  clear h1 h2
  by_cases hl : xs.length = ys.length
  · have HL := Lib.hid hl
    rw [← hl]
    clear hl f2
    go_enter Try.func49, Try.ntmps49
    go_wp2_with fail
    go_loopw [13] (fun i wr => ∃ k : Nat, k ≤ xs.length ∧ i = .int .i64 k ∧ (∀ j (h : j < xs.length) (h' : j < ys.length), j < k → xs[j] = ys[j]) ∧ Gr w wr) (fun i _ => xs.length - (intOf i).toNat)
    case atStart => exact ⟨0, Nat.zero_le _, rfl, fun j _ _ h => absurd h (by omega), Gr.refl _⟩
    case round =>
      obtain ⟨k, hk, rfl, hall, hg⟩ := hrel
      have HA := Lib.hid hall
      have HG := Lib.hid hg
      clear hall hg
      by_cases hlt : k < xs.length
      · have hlt' : k < ys.length := by have := HL.out; omega
        obtain ⟨b1, o1, rfl, e1, _⟩ := (H1.out.giI HG.out).one k hlt
        obtain ⟨b2, o2, rfl, e2, _⟩ := (H2.out.giI HG.out).one k hlt'
        have x1 := has_of_cell e1
        have x2 := has_of_cell e2
        have g0 : (0 : Int) ≤ k := by omega
        have g1 : (k : Int) < xs.length := by omega
        by_cases hq : xs[k] = ys[k]
        · have Q := Lib.hid hq
          have hqb : (xs[k] != ys[k]) = false := by simp [hq]
          clear hq
          go_wp2_with fail
          refine wp_region_grows (by kernel_rfl) (by kernel_rfl) ?_
          repeat (go_big_quiet_step (fail))
          refine wpQuiet_nil ?_
          rintro _ ⟨⟨O5, d5⟩, rfl⟩
          go_wp2_with fail
          go_roundw
          case rel =>
            refine ⟨k + 1, by omega, by go_num, fun j q1 q2 hj => ?_, HG.out.xt _ _⟩
            by_cases e : j = k
            · subst e; exact Q.out
            · exact HA.out j q1 q2 (by omega)
          case measure => simp [intOf]; omega
        · have Q := Lib.hid hq
          have hqb : (xs[k] != ys[k]) = true := by simp [hq]
          clear hq
          go_wp2_with fail
          refine wp_region_grows (by kernel_rfl) (by kernel_rfl) ?_
          repeat (go_big_quiet_step (fail))
          refine wpQuiet_nil ?_
          rintro _ ⟨⟨O5, d5⟩, rfl⟩
          go_wp2_with fail
          go_ret
          exact ⟨ret_bool (decide_eq_false (fun e => Q.out (by simp [e]))).symm, HG.out.xt _ _⟩
      · go_wp2_with fail
        go_ret
        exact ⟨ret_bool (decide_eq_true (List.ext_getElem HL.out fun j q1 q2 => HA.out j q1 q2 (by omega))).symm, HG.out⟩
  · have hlb : ((xs.length : Int) != ys.length) = true := by simp; omega
    go_enter Try.func49, Try.ntmps49
    go_wp2_with fail
    go_ret
    exact ⟨ret_bool (decide_eq_false (fun e => hl (by rw [e]))).symm, Gr.refl _⟩
theorem sameRails_any (a b : Rls) (a1 a2 a3 a4 : Option Addr) (c1 c2 c3 c4 : Nat) (w : World) (h1 : SlOf 1 RB w a1 a.on) (h2 : SlOf 1 RI w a2 a.level) (h3 : SlOf 1 RB w a3 b.on) (h4 : SlOf 1 RI w a4 b.level) (f1 : Fit a.on.length) (f2 : Fit a.level.length) (f3 : Fit b.on.length) (f4 : Fit b.level.length) :
    Calls Try.prog 18 #[.agg #[.slice a1 a.on.length c1, .slice a2 a.level.length c2], .agg #[.slice a3 b.on.length c3, .slice a4 b.level.length c4]] w (Grows w (.bool (decide (a = b)))) := by
  have H1 := Lib.hid h1
  have H2 := Lib.hid h2
  have H3 := Lib.hid h3
  have H4 := Lib.hid h4
  clear h1 h2 h3 h4
  have key : (a = b) ↔ a.on = b.on ∧ a.level = b.level := by
    cases a; cases b; simp
  have KEY := Lib.hid key
  clear key
  go_enter Try.func18, Try.ntmps18
  go_wp2_with fail
  refine (sameB_any a.on b.on a1 a3 c1 c3 _ (H1.out.giB (by repeat (first | with_reducible exact Gr.refl _ | with_reducible refine Gr.alloc _ ?_ | with_reducible refine Gr.xt _ _ ?_ | with_reducible refine Gr.drew ?_))) (H3.out.giB (by repeat (first | with_reducible exact Gr.refl _ | with_reducible refine Gr.alloc _ ?_ | with_reducible refine Gr.xt _ _ ?_ | with_reducible refine Gr.drew ?_))) f1 f3).mono ?_
  by_cases e1 : a.on = b.on
  · rw [decide_eq_true e1]
    have E1 := Lib.hid e1
    clear e1
    rintro e w' ⟨rfl, O, d, rfl⟩
    go_wp2_with fail
    refine (sameI_any a.level b.level a2 a4 c2 c4 _ (H2.out.giI (by repeat (first | with_reducible exact Gr.refl _ | with_reducible refine Gr.alloc _ ?_ | with_reducible refine Gr.xt _ _ ?_ | with_reducible refine Gr.drew ?_))) (H4.out.giI (by repeat (first | with_reducible exact Gr.refl _ | with_reducible refine Gr.alloc _ ?_ | with_reducible refine Gr.xt _ _ ?_ | with_reducible refine Gr.drew ?_))) f2 f4).mono ?_
    rintro e w' ⟨rfl, O2, d2, rfl⟩
    go_wp2_with fail
    go_ret
    exact ⟨ret_bool (by by_cases q : a.level = b.level <;> simp [KEY.out, E1.out, q]), by repeat (first | with_reducible exact Gr.refl _ | with_reducible refine Gr.alloc _ ?_ | with_reducible refine Gr.xt _ _ ?_ | with_reducible refine Gr.drew ?_)⟩
  · rw [decide_eq_false e1]
    have E1 := Lib.hid e1
    clear e1
    rintro e w' ⟨rfl, O, d, rfl⟩
    go_wp2_with fail
    go_ret
    exact ⟨ret_bool (by simp [KEY.out, E1.out]), by repeat (first | with_reducible exact Gr.refl _ | with_reducible refine Gr.alloc _ ?_ | with_reducible refine Gr.xt _ _ ?_ | with_reducible refine Gr.drew ?_)⟩
theorem xt_far (W : World) (O : Array Obj) (d k : Nat) (hk : W.heap.size ≤ k) : (xt W O d).heap[k]? = O[k - W.heap.size]? := by
  simp only [xt]
  rw [Array.getElem?_append_right hk]
theorem Own1.far {base : Nat} {W W' : World} {O : Array Obj} {d d' T : Nat} {vs : List Value} {a : Option Addr} (hs : W.heap.size = W'.heap.size) (h : Own1 base (xt W O d) T vs a) (hb : W.heap.size ≤ base) : Own1 base (xt W' O d') T vs a := by
  rcases h with h | ⟨B, e, hB, r, h⟩
  · exact .inl h
  · refine .inr ⟨B, e, hB, r, ?_⟩
    unfold Row at *
    rw [xt_far _ _ _ _ (by omega)] at h ⊢
    rw [← hs]; exact h
def GivesR (w : World) (r : Rls) (x : Int) (e : Ending) (w' : World) : Prop :=
  ∃ a1 a2 c1 c2, e = .returned (.tuple #[.agg #[.slice a1 r.on.length c1, .slice a2 r.level.length c2], .int .i64 x]) ∧ r.on.length ≤ c1 ∧ r.level.length ≤ c2 ∧ SlOf 1 RB w' a1 r.on ∧ SlOf 1 RI w' a2 r.level ∧ Gr w w'
theorem givesR_no {w w' : World} {x : Int} (hg : Gr w w') : GivesR w noRls x (.returned (.tuple #[.agg #[.slice none 0 0, .slice none 0 0], .int .i64 x])) w' :=
  ⟨none, none, 0, 0, rfl, Nat.le_refl _, Nat.le_refl _, SlOf.nil _ _ _ _, SlOf.nil _ _ _ _, hg⟩
noncomputable def joinP (l : List Sup) (a b : Rls) : Rls := if begR l [a, b] = 0 then joinR a b else noRls
theorem lv_wide {r : Rls} (h : ∀ k, Wide (lvAt r k)) (k : Nat) (hk : k < r.level.length) : Wide r.level[k] := by rw [← lvAt_eq hk]; exact h k
theorem bigJoin_any (l : List Sup) (a b : Rls) (ao a1 a2 a3 a4 : Option Addr) (cap c1 c2 c3 c4 : Nat) (w : World) (h : SlOf 5 RSup w ao l) (hf : Fit l.length) (h1 : SlOf 1 RB w a1 a.on) (h2 : SlOf 1 RI w a2 a.level) (h3 : SlOf 1 RB w a3 b.on) (h4 : SlOf 1 RI w a4 b.level)
    (k1 : a.on.length ≤ c1) (k2 : a.level.length ≤ c2) (k3 : b.on.length ≤ c3) (k4 : b.level.length ≤ c4) (f1 : Fit a.on.length) (f2 : Fit a.level.length) (f3 : Fit b.on.length) (f4 : Fit b.level.length) :
    Calls Try.prog 14 #[.slice ao l.length cap, .agg #[.slice a1 a.on.length c1, .slice a2 a.level.length c2], .agg #[.slice a3 b.on.length c3, .slice a4 b.level.length c4]] w (GivesR w (joinP l a b) (begR l [a, b])) := by
  have H := Lib.hid h
  have H1 := Lib.hid h1
  have H2 := Lib.hid h2
  have H3 := Lib.hid h3
  have H4 := Lib.hid h4
  have HF := Lib.hid hf
  have F1 := Lib.hid f1
  have F2 := Lib.hid f2
  have F3 := Lib.hid f3
  have F4 := Lib.hid f4
  clear h h1 h2 h3 h4 hf f1 f2 f3 f4
  have K : Hid (a.on.length ≤ c1 ∧ a.level.length ≤ c2 ∧ b.on.length ≤ c3 ∧ b.level.length ≤ c4) := Lib.hid ⟨k1, k2, k3, k4⟩
  clear k1 k2 k3 k4
  go_enter Try.func14, Try.ntmps14
  go_wp2_with fail
  refine (begin_anyZ l [a, b] ao _ cap 2 _ (sups_gr H.out (by repeat (first | with_reducible exact Gr.refl _ | with_reducible refine Gr.alloc _ ?_ | with_reducible refine Gr.xt _ _ ?_ | with_reducible refine Gr.drew ?_))) HF.out (two_rls (a1 := a1) (a2 := a2) (a3 := a3) (a4 := a4) (c1 := c1) (c2 := c2) (c3 := c3) (c4 := c4) (by simp [go_sem]) (by simp [go_sem]) (by simp [go_sem]) (by simp [go_sem]) (H1.out.giB (by repeat (first | with_reducible exact Gr.refl _ | with_reducible refine Gr.alloc _ ?_ | with_reducible refine Gr.xt _ _ ?_ | with_reducible refine Gr.drew ?_))) (H2.out.giI (by repeat (first | with_reducible exact Gr.refl _ | with_reducible refine Gr.alloc _ ?_ | with_reducible refine Gr.xt _ _ ?_ | with_reducible refine Gr.drew ?_))) (H3.out.giB (by repeat (first | with_reducible exact Gr.refl _ | with_reducible refine Gr.alloc _ ?_ | with_reducible refine Gr.xt _ _ ?_ | with_reducible refine Gr.drew ?_))) (H4.out.giI (by repeat (first | with_reducible exact Gr.refl _ | with_reducible refine Gr.alloc _ ?_ | with_reducible refine Gr.xt _ _ ?_ | with_reducible refine Gr.drew ?_))) K.out.1 K.out.2.1 K.out.2.2.1 K.out.2.2.2 F1.out F2.out F3.out F4.out) (by unfold Fit; simp)).mono ?_
  rintro e w' ⟨rfl, O1, d1, rfl⟩
  by_cases hb : begR l [a, b] = 0
  · have HB := Lib.hid hb
    rw [hb]
    have hz := begR_zero hb
    have ra := Lib.hid (hz.2 a (by simp))
    have rb := Lib.hid (hz.2 b (by simp))
    have n16 : l.length ≤ 16 := by
      have := (chk_zero hz.1).1
      simp only [BigZ, not_or] at this
      omega
    clear hz hb
    go_wp2_with fail
    refine (join_any a b l.length a1 a2 a3 a4 c1 c2 c3 c4 _ (H1.out.giB (by repeat (first | with_reducible exact Gr.refl _ | with_reducible refine Gr.alloc _ ?_ | with_reducible refine Gr.xt _ _ ?_ | with_reducible refine Gr.drew ?_))) (H2.out.giI (by repeat (first | with_reducible exact Gr.refl _ | with_reducible refine Gr.alloc _ ?_ | with_reducible refine Gr.xt _ _ ?_ | with_reducible refine Gr.drew ?_))) (H3.out.giB (by repeat (first | with_reducible exact Gr.refl _ | with_reducible refine Gr.alloc _ ?_ | with_reducible refine Gr.xt _ _ ?_ | with_reducible refine Gr.drew ?_))) (H4.out.giI (by repeat (first | with_reducible exact Gr.refl _ | with_reducible refine Gr.alloc _ ?_ | with_reducible refine Gr.xt _ _ ?_ | with_reducible refine Gr.drew ?_))) ra.out.2.1 ra.out.2.2.1 rb.out.2.1 rb.out.2.2.1 n16).mono ?_
    rintro e w' ⟨a6, c6, a7, c7, rfl, hc6, hc7, o1, o2, O2, d2, rfl⟩
    have O6 := Lib.hid o1
    have O7 := Lib.hid o2
    clear o1 o2
    go_wp2_with fail
    refine bodyPost_ret (v := .tuple #[.agg #[.slice a6 (joinR a b).on.length c6, .slice a7 (joinR a b).level.length c7], .int .i64 0]) ?_ rfl ?_
    · simp [results, Try.results14, go_sem]
    · have hP : joinP l a b = joinR a b := by rw [joinP, if_pos HB.out]
      rw [hP, HB.out]
      have q1 := O6.out
      have q2 := O7.out
      simp only [xt_xt, xt_drew] at q1 q2
      refine ⟨a6, a7, c6, c7, rfl, hc6, hc7, (Own1.far (by simp) q1 (by simp <;> omega)).slB, (Own1.far (by simp) q2 (by simp <;> omega)).slI (lv_wide (join_wide (rls_wide ra.out) (rls_wide rb.out))), by repeat (first | with_reducible exact Gr.refl _ | with_reducible refine Gr.alloc _ ?_ | with_reducible refine Gr.xt _ _ ?_ | with_reducible refine Gr.drew ?_)⟩
  · have hbb : (begR l [a, b] != 0) = true := by simpa using hb
    have HB := Lib.hid hb
    clear hb
    go_wp2_with fail
    refine bodyPost_ret (v := .tuple #[.agg #[.slice none 0 0, .slice none 0 0], .int .i64 (begR l [a, b])]) ?_ rfl ?_
    · simp [results, Try.results14, go_sem]
    · rw [joinP, if_neg HB.out]
      exact givesR_no (by repeat (first | with_reducible exact Gr.refl _ | with_reducible refine Gr.alloc _ ?_ | with_reducible refine Gr.xt _ _ ?_ | with_reducible refine Gr.drew ?_))
noncomputable def applyR (r : Rls) (p : Wri) : Rls := if p.kind = 2 then ⟨r.on, r.level.set p.unit.toNat p.value⟩ else ⟨r.on.set p.unit.toNat (p.value == 1), r.level⟩
theorem applyR_on_len (r : Rls) (p : Wri) : (applyR r p).on.length = r.on.length := by unfold applyR; split <;> simp
theorem applyR_lv_len (r : Rls) (p : Wri) : (applyR r p).level.length = r.level.length := by unfold applyR; split <;> simp
theorem applyR_lv {r : Rls} {p : Wri} {u : Nat} (hk : p.kind = 2) (hu : p.unit = (u : Int)) : applyR r p = ⟨r.on, r.level.set u p.value⟩ := by rw [applyR, if_pos hk, hu, Int.toNat_natCast]
theorem applyR_on {r : Rls} {p : Wri} {u : Nat} (hk : p.kind ≠ 2) (hu : p.unit = (u : Int)) : applyR r p = ⟨r.on.set u (p.value == 1), r.level⟩ := by rw [applyR, if_neg hk, hu, Int.toNat_natCast]
theorem applied_any (r : Rls) (p : Wri) (n u : Nat) (a1 a2 : Option Addr) (c1 c2 : Nat) (w : World) (h1 : SlOf 1 RB w a1 r.on) (h2 : SlOf 1 RI w a2 r.level) (n1 : r.on.length = n) (n2 : r.level.length = n) (hn : n ≤ 16) (hu : p.unit = (u : Int)) (hun : u < n) :
    Calls Try.prog 51 #[.agg #[.slice a1 r.on.length c1, .slice a2 r.level.length c2], .agg #[.int .i64 p.kind, .int .i64 p.unit, .int .i64 p.value]] w (GivesRls w (applyR r p)) := by
  have H1 := Lib.hid h1
  have H2 := Lib.hid h2
  have N1 := Lib.hid n1
  have N2 := Lib.hid n2
  have HU := Lib.hid hu
  have m1 : r.on.length ≤ 16 := by omega
  have m2 : r.level.length ≤ 16 := by omega
  have u1 : u < r.on.length := by omega
  have u2 : u < r.level.length := by omega
  clear h1 h2 n1 n2
  rw [hu]
  clear hu
  go_enter Try.func51, Try.ntmps51
  go_wp2_with fail
  refine (copied_any r a1 a2 c1 c2 _ (H1.out.giB (by repeat (first | with_reducible exact Gr.refl _ | with_reducible refine Gr.alloc _ ?_ | with_reducible refine Gr.xt _ _ ?_ | with_reducible refine Gr.drew ?_)) ) (H2.out.giI (by repeat (first | with_reducible exact Gr.refl _ | with_reducible refine Gr.alloc _ ?_ | with_reducible refine Gr.xt _ _ ?_ | with_reducible refine Gr.drew ?_)) ) (by omega) (by omega)).mono ?_
  rintro e W1 ⟨a5, c5, a6, c6, rfl, hc5, hc6, o1, o2, hg⟩
  obtain ⟨B1, rfl, hB1, q1⟩ := o1.at (by simp [bools]; omega)
  obtain ⟨B2, rfl, hB2, q2⟩ := o2.at (by simp [nums]; omega)
  have Q1 := Lib.hid q1
  have Q2 := Lib.hid q2
  have G1 := Lib.hid hg
  have e0 : W1.cell? ⟨w.heap.size + 1, 0, none⟩ = some (.int .i64 p.kind) := cell_gr hg (by simp [go_sem])
  have e1 : W1.cell? ⟨w.heap.size + 1, 1, none⟩ = some (.int .i64 u) := cell_gr hg (by simp [go_sem])
  have e2 : W1.cell? ⟨w.heap.size + 1, 2, none⟩ = some (.int .i64 p.value) := cell_gr hg (by simp [go_sem])
  have x0 := has_of_cell e0
  have r0 : Row W1 (w.heap.size + 2) 31 [.slice none 0 0, .slice none 0 0] := by
    have := Row.new ((w.alloc (.cells #[.slice a1 r.on.length c1, .slice a2 r.level.length c2] 31)).alloc (.cells #[.int .i64 p.kind, .int .i64 u, .int .i64 p.value] 46)) #[.slice none 0 0, .slice none 0 0] 31
    simp only [World.size_alloc] at this
    exact this.gr hg
  have R0 := Lib.hid r0
  have y0 := r0.cell 0 (by simp)
  have y1 := r0.cell 1 (by simp)
  simp only [List.getElem_cons_zero, List.getElem_cons_succ] at y0 y1
  have y2 := r0.free 0
  have y3 := r0.free 1
  have yh := r0.has
  have sz : w.heap.size + 3 ≤ W1.heap.size := by have := hg.size; simpa using this
  have z1 := q1.has
  have z2 := q2.has
  have z3 := q1.free u
  have z4 := q2.free u
  have z5 := q1.bat u u1
  have z6 := q2.iat u u2
  have t1 : B1 ≠ B2 := q1.apart q2 (by decide)
  have t2 : B1 ≠ W1.heap.size := by have : B1 < W1.heap.size := q1.has; omega
  have t3 : B2 ≠ W1.heap.size := by have : B2 < W1.heap.size := q2.has; omega
  have t4 : w.heap.size + 3 ≤ B1 := by simpa using hB1
  have t5 : w.heap.size + 3 ≤ B2 := by simpa using hB2
  have GW : Hid (Gr w W1) := Lib.hid ((((Gr.refl w).alloc _).alloc _).alloc _ |>.trans hg)
  have g0 : (0 : Int) ≤ u := by omega
  have g1 : (u : Int) < r.on.length := by omega
  have g2 : (u : Int) < r.level.length := by omega
  clear o1 o2 hg q1 q2 r0 hB1 hB2
  by_cases hk : p.kind = 2
  · have HK := Lib.hid hk
    rw [hk] at e0
    clear hk
    go_wp2_with fail
    refine bodyPost_ret (v := .agg #[.slice (some ⟨B1, 0, none⟩) r.on.length c5, .slice (some ⟨B2, 0, none⟩) r.level.length c6]) ?_ rfl ?_
    · simp [results, Try.results51, go_sem, y0, y1, yh, t1, t2, t3, z1, z2]
    · rw [applyR_lv HK.out HU.out]
      refine ⟨some ⟨B1, 0, none⟩, c5, some ⟨B2, 0, none⟩, c6, by simp, hc5, by simpa using hc6, ?_, ?_, ?_⟩
      · exact Own1.row (by omega) (by repeat (first | with_reducible exact Q1.out | with_reducible refine RowS.alloc _ ?_ | with_reducible refine RowS.oth ?_ (by omega)))
      · exact Own1.row (by omega) (by repeat (first | with_reducible exact Q2.out.iset u u2 _ | with_reducible refine RowS.alloc _ ?_ | with_reducible refine RowS.oth ?_ (by omega)))
      · repeat (first | with_reducible exact GW.out | with_reducible refine Gr.alloc _ ?_ | with_reducible refine Gr.setc (by omega) ?_)
  · have hkb : (p.kind == 2) = false := by simpa using hk
    have HK := Lib.hid hk
    clear hk
    go_wp2_with fail
    refine bodyPost_ret (v := .agg #[.slice (some ⟨B1, 0, none⟩) r.on.length c5, .slice (some ⟨B2, 0, none⟩) r.level.length c6]) ?_ rfl ?_
    · simp [results, Try.results51, go_sem, y0, y1, yh, t1, t2, t3, z1, z2]
    · rw [applyR_on HK.out HU.out]
      refine ⟨some ⟨B1, 0, none⟩, c5, some ⟨B2, 0, none⟩, c6, by simp, by simpa using hc5, hc6, ?_, ?_, ?_⟩
      · exact Own1.row (by omega) (by repeat (first | with_reducible exact Q1.out.bset u u1 _ | with_reducible refine RowS.alloc _ ?_ | with_reducible refine RowS.oth ?_ (by omega)))
      · exact Own1.row (by omega) (by repeat (first | with_reducible exact Q2.out | with_reducible refine RowS.alloc _ ?_ | with_reducible refine RowS.oth ?_ (by omega)))
      · repeat (first | with_reducible exact GW.out | with_reducible refine Gr.alloc _ ?_ | with_reducible refine Gr.setc (by omega) ?_)
def lvLen (l : List Sup) (u : Int) : Int := if h : 0 ≤ u ∧ u < l.length then (l[u.toNat]'(by omega)).levels.length else 0
def BadVal (l : List Sup) (p : Wri) : Prop := p.value < 0 ∨ (p.kind = 2 ∧ lvLen l p.unit ≤ p.value) ∨ (p.kind ≠ 2 ∧ 1 < p.value)
noncomputable def appE (l : List Sup) (r : Rls) (p : Wri) : Int :=
  if begR l [r] = 0 then (if p.kind ≠ 2 ∧ p.kind ≠ 3 then 1 else if p.unit < 0 ∨ (l.length : Int) ≤ p.unit then 4 else if BadVal l p then 2 else 0) else begR l [r]
noncomputable def appP (l : List Sup) (r : Rls) (p : Wri) : Rls := if appE l r p = 0 then applyR r p else noRls
theorem one_rls {w : World} {B : Nat} {a : Rls} {a1 a2 : Option Addr} {c1 c2 : Nat} (e0 : w.cell? ⟨B, 0, none⟩ = some (.slice a1 a.on.length c1)) (e1 : w.cell? ⟨B, 1, none⟩ = some (.slice a2 a.level.length c2))
    (h1 : SlOf 1 RB w a1 a.on) (h2 : SlOf 1 RI w a2 a.level) (k1 : a.on.length ≤ c1) (k2 : a.level.length ≤ c2) (f1 : Fit a.on.length) (f2 : Fit a.level.length) : SlOf 2 RRls w (some ⟨B, 0, none⟩) [a] := by
  intro k hk
  refine ⟨B, 0, rfl, ?_⟩
  have : k = 0 := by simp at hk; omega
  subst this
  exact ⟨⟨a1, c1, e0, k1, f1, h1⟩, ⟨a2, c2, e1, k2, f2, h2⟩⟩
theorem applyR_wide {l : List Sup} {r : Rls} {p : Wri} (hr : RlsOk l r) (hp : Wide p.value) (k : Nat) (hk : k < (applyR r p).level.length) : Wide (applyR r p).level[k] := by
  have hw := rls_wide hr
  rw [applyR_lv_len] at hk
  by_cases e : p.kind = 2
  · have : (applyR r p).level = r.level.set p.unit.toNat p.value := by rw [applyR, if_pos e]
    simp only [this, List.getElem_set]
    split
    · exact hp
    · rw [← lvAt_eq hk]; exact hw k
  · have : (applyR r p).level = r.level := by rw [applyR, if_neg e]
    simp only [this]
    rw [← lvAt_eq hk]; exact hw k
def GivesRo (w : World) (r : Rls) (x : Int) (e : Ending) (w' : World) : Prop :=
  ∃ a1 a2 c1 c2, e = .returned (.tuple #[.agg #[.slice a1 r.on.length c1, .slice a2 r.level.length c2], .int .i64 x]) ∧ r.on.length ≤ c1 ∧ r.level.length ≤ c2 ∧ Own1 w.heap.size w' 4 (bools r.on) a1 ∧ Own1 w.heap.size w' 3 (nums r.level) a2 ∧ Gr w w'
theorem givesRo_no {w w' : World} {x : Int} (hg : Gr w w') : GivesRo w noRls x (.returned (.tuple #[.agg #[.slice none 0 0, .slice none 0 0], .int .i64 x])) w' :=
  ⟨none, none, 0, 0, rfl, Nat.le_refl _, Nat.le_refl _, .inl rfl, .inl rfl, hg⟩
theorem apply_any (l : List Sup) (r : Rls) (p : Wri) (ao a1 a2 : Option Addr) (cap c1 c2 : Nat) (w : World) (h : SlOf 5 RSup w ao l) (hf : Fit l.length) (h1 : SlOf 1 RB w a1 r.on) (h2 : SlOf 1 RI w a2 r.level)
    (k1 : r.on.length ≤ c1) (k2 : r.level.length ≤ c2) (f1 : Fit r.on.length) (f2 : Fit r.level.length) (hp : WWide p) :
    Calls Try.prog 20 #[.slice ao l.length cap, .agg #[.slice a1 r.on.length c1, .slice a2 r.level.length c2], .agg #[.int .i64 p.kind, .int .i64 p.unit, .int .i64 p.value]] w (GivesRo w (appP l r p) (appE l r p)) := by
  have H := Lib.hid h
  have H1 := Lib.hid h1
  have H2 := Lib.hid h2
  have HF := Lib.hid hf
  have F1 := Lib.hid f1
  have F2 := Lib.hid f2
  have WP := Lib.hid hp
  have K : Hid (r.on.length ≤ c1 ∧ r.level.length ≤ c2) := Lib.hid ⟨k1, k2⟩
  clear h h1 h2 hf f1 f2 k1 k2 hp
  go_enter Try.func20, Try.ntmps20
  go_wp2_with fail
  refine (begin_anyZ l [r] ao _ cap 1 _ (sups_gr H.out (by repeat (first | with_reducible exact Gr.refl _ | with_reducible refine Gr.alloc _ ?_ | with_reducible refine Gr.xt _ _ ?_ | with_reducible refine Gr.drew ?_))) HF.out (one_rls (a1 := a1) (a2 := a2) (c1 := c1) (c2 := c2) (by simp [go_sem]) (by simp [go_sem]) (H1.out.giB (by repeat (first | with_reducible exact Gr.refl _ | with_reducible refine Gr.alloc _ ?_ | with_reducible refine Gr.xt _ _ ?_ | with_reducible refine Gr.drew ?_))) (H2.out.giI (by repeat (first | with_reducible exact Gr.refl _ | with_reducible refine Gr.alloc _ ?_ | with_reducible refine Gr.xt _ _ ?_ | with_reducible refine Gr.drew ?_))) K.out.1 K.out.2 F1.out F2.out) (by unfold Fit; simp)).mono ?_
  rintro e w' ⟨rfl, O1, d1, rfl⟩
  by_cases hb : begR l [r] = 0
  · have HB := Lib.hid hb
    rw [hb]
    have hz := begR_zero hb
    have ra := Lib.hid (hz.2 r (by simp))
    have n16 : l.length ≤ 16 := by
      have := (chk_zero hz.1).1
      simp only [BigZ, not_or] at this
      omega
    clear hz hb
    by_cases hk : p.kind ≠ 2 ∧ p.kind ≠ 3
    · have HE : Hid (appE l r p = 1) := Lib.hid (by rw [appE, if_pos HB.out, if_pos hk])
      have hk2 : (p.kind == 2) = false := by simp [hk.1]
      have hk3 : (p.kind != 3) = true := by simp [hk.2]
      clear hk
      go_wp2_with fail
      refine bodyPost_ret (v := .tuple #[.agg #[.slice none 0 0, .slice none 0 0], .int .i64 1]) ?_ rfl ?_
      · simp [results, Try.results20, go_sem]
      · rw [appP, HE.out, if_neg (by omega)]
        exact givesRo_no (by repeat (first | with_reducible exact Gr.refl _ | with_reducible refine Gr.alloc _ ?_ | with_reducible refine Gr.xt _ _ ?_ | with_reducible refine Gr.drew ?_))
    · have HK := Lib.hid hk
      by_cases hu : p.unit < 0 ∨ (l.length : Int) ≤ p.unit
      · have HE : Hid (appE l r p = 4) := Lib.hid (by rw [appE, if_pos HB.out, if_neg hk, if_pos hu])
        have HU := Lib.hid hu
        rcases Classical.em (p.kind = 2) with hk2 | hk2
        · have q2 : (p.kind == 2) = true := by simp [hk2]
          clear hk hk2
          rcases Classical.em (p.unit < 0) with u0 | u0
          · have v0 : decide (p.unit < 0) = true := by simpa using u0
            clear u0 hu
            go_wp2_with fail
            refine bodyPost_ret (v := .tuple #[.agg #[.slice none 0 0, .slice none 0 0], .int .i64 4]) ?_ rfl ?_
            · simp [results, Try.results20, go_sem]
            · rw [appP, HE.out, if_neg (by omega)]
              exact givesRo_no (by repeat (first | with_reducible exact Gr.refl _ | with_reducible refine Gr.alloc _ ?_ | with_reducible refine Gr.xt _ _ ?_ | with_reducible refine Gr.drew ?_))
          · have v0 : decide (p.unit < 0) = false := by simpa using u0
            have v1 : decide ((l.length : Int) ≤ p.unit) = true := by simp; omega
            clear u0 hu
            go_wp2_with fail
            refine bodyPost_ret (v := .tuple #[.agg #[.slice none 0 0, .slice none 0 0], .int .i64 4]) ?_ rfl ?_
            · simp [results, Try.results20, go_sem]
            · rw [appP, HE.out, if_neg (by omega)]
              exact givesRo_no (by repeat (first | with_reducible exact Gr.refl _ | with_reducible refine Gr.alloc _ ?_ | with_reducible refine Gr.xt _ _ ?_ | with_reducible refine Gr.drew ?_))
        · have q2 : (p.kind == 2) = false := by simp [hk2]
          have q3 : (p.kind != 3) = false := by
            have := hk
            simp only [not_and, Classical.not_not] at this
            simp [this hk2]
          clear hk hk2
          rcases Classical.em (p.unit < 0) with u0 | u0
          · have v0 : decide (p.unit < 0) = true := by simpa using u0
            clear u0 hu
            go_wp2_with fail
            refine bodyPost_ret (v := .tuple #[.agg #[.slice none 0 0, .slice none 0 0], .int .i64 4]) ?_ rfl ?_
            · simp [results, Try.results20, go_sem]
            · rw [appP, HE.out, if_neg (by omega)]
              exact givesRo_no (by repeat (first | with_reducible exact Gr.refl _ | with_reducible refine Gr.alloc _ ?_ | with_reducible refine Gr.xt _ _ ?_ | with_reducible refine Gr.drew ?_))
          · have v0 : decide (p.unit < 0) = false := by simpa using u0
            have v1 : decide ((l.length : Int) ≤ p.unit) = true := by simp; omega
            clear u0 hu
            go_wp2_with fail
            refine bodyPost_ret (v := .tuple #[.agg #[.slice none 0 0, .slice none 0 0], .int .i64 4]) ?_ rfl ?_
            · simp [results, Try.results20, go_sem]
            · rw [appP, HE.out, if_neg (by omega)]
              exact givesRo_no (by repeat (first | with_reducible exact Gr.refl _ | with_reducible refine Gr.alloc _ ?_ | with_reducible refine Gr.xt _ _ ?_ | with_reducible refine Gr.drew ?_))
      · obtain ⟨u, hun⟩ := Int.eq_ofNat_of_zero_le (show 0 ≤ p.unit by omega)
        have UN := Lib.hid hun
        have hul : u < l.length := by omega
        have HU := Lib.hid hu
        have hlv : Hid (lvLen l p.unit = l[u].levels.length) := Lib.hid (by simp [lvLen, hun, hul])
        obtain ⟨b, o, rfl, _, ⟨al, cl, q1, _, _, _⟩, _⟩ := H.out u hul
        have xq := has_of_cell q1
        have v0 : decide (p.unit < 0) = false := by simp; omega
        have v1 : decide ((l.length : Int) ≤ p.unit) = false := by simp; omega
        rw [hun] at v0 v1 ⊢
        have g0 : (0 : Int) ≤ u := by omega
        have g1 : (u : Int) < l.length := by omega
        clear hun hu
        rcases Classical.em (p.kind = 2) with hk2 | hk2
        · have q2 : (p.kind == 2) = true := by simp [hk2]
          have K2 := Lib.hid hk2
          clear hk hk2
          by_cases hv0 : p.value < 0
          · have w0 : decide (p.value < 0) = true := by simpa using hv0
            have V0 := Lib.hid hv0
            clear hv0
            have HE : Hid (appE l r p = 2) := Lib.hid (by rw [appE, if_pos HB.out, if_neg HK.out, if_neg HU.out, if_pos (.inl V0.out)])
            go_wp2_with fail
            refine wp_region_growsx (by kernel_rfl) (by kernel_rfl) ?_
            repeat (go_big_quiet_step (fail))
            refine wpQuiet_nil ?_
            rintro _ ⟨⟨O5, d5⟩, rfl⟩
            go_wp2_with fail
            refine bodyPost_ret (v := .tuple #[.agg #[.slice none 0 0, .slice none 0 0], .int .i64 2]) ?_ rfl ?_
            · simp [results, Try.results20, go_sem]
            · rw [appP, HE.out, if_neg (by omega)]
              exact givesRo_no (by repeat (first | with_reducible exact Gr.refl _ | with_reducible refine Gr.alloc _ ?_ | with_reducible refine Gr.xt _ _ ?_ | with_reducible refine Gr.drew ?_))
          · have w0 : decide (p.value < 0) = false := by simpa using hv0
            by_cases hv1 : (l[u].levels.length : Int) ≤ p.value
            · have w1 : decide ((l[u].levels.length : Int) ≤ p.value) = true := by simpa using hv1
              have V1 := Lib.hid hv1
              clear hv0 hv1
              have HE : Hid (appE l r p = 2) := Lib.hid (by rw [appE, if_pos HB.out, if_neg HK.out, if_neg HU.out, if_pos (.inr (.inl ⟨K2.out, by rw [hlv.out]; exact V1.out⟩))])
              go_wp2_with fail
              refine wp_region_growsx (by kernel_rfl) (by kernel_rfl) ?_
              repeat (go_big_quiet_step (fail))
              refine wpQuiet_nil ?_
              rintro _ ⟨⟨O5, d5⟩, rfl⟩
              go_wp2_with fail
              refine bodyPost_ret (v := .tuple #[.agg #[.slice none 0 0, .slice none 0 0], .int .i64 2]) ?_ rfl ?_
              · simp [results, Try.results20, go_sem]
              · rw [appP, HE.out, if_neg (by omega)]
                exact givesRo_no (by repeat (first | with_reducible exact Gr.refl _ | with_reducible refine Gr.alloc _ ?_ | with_reducible refine Gr.xt _ _ ?_ | with_reducible refine Gr.drew ?_))
            · have w1 : decide ((l[u].levels.length : Int) ≤ p.value) = false := by simp; omega
              have V0 := Lib.hid hv0
              have V1 := Lib.hid hv1
              clear hv0 hv1
              have HE : Hid (appE l r p = 0) := Lib.hid (by rw [appE, if_pos HB.out, if_neg HK.out, if_neg HU.out, if_neg (fun q => q.elim V0.out (fun q => q.elim (fun q => V1.out (by rw [← hlv.out]; exact q.2)) (fun q => q.1 K2.out)))])
              go_wp2_with fail
              refine wp_region_growsx (by kernel_rfl) (by kernel_rfl) ?_
              repeat (go_big_quiet_step (fail))
              refine wpQuiet_nil ?_
              rintro _ ⟨⟨O5, d5⟩, rfl⟩
              clear q1 xq
              go_wp2_with fail
              have AA := fun W hh1 hh2 => applied_any r p l.length u a1 a2 c1 c2 W hh1 hh2 ra.out.2.1 ra.out.2.2.1 n16 UN.out hul
              rw [UN.out] at AA
              refine (AA _ (H1.out.giB (by repeat (first | with_reducible exact Gr.refl _ | with_reducible refine Gr.alloc _ ?_ | with_reducible refine Gr.xt _ _ ?_ | with_reducible refine Gr.drew ?_))) (H2.out.giI (by repeat (first | with_reducible exact Gr.refl _ | with_reducible refine Gr.alloc _ ?_ | with_reducible refine Gr.xt _ _ ?_ | with_reducible refine Gr.drew ?_)))).mono ?_
              clear AA
              rintro e w' ⟨a6, c6, a7, c7, rfl, hc6, hc7, o1, o2, O2, d2, rfl⟩
              have O6 := Lib.hid o1
              have O7 := Lib.hid o2
              clear o1 o2
              go_wp2_with fail
              refine bodyPost_ret (v := .tuple #[.agg #[.slice a6 (applyR r p).on.length c6, .slice a7 (applyR r p).level.length c7], .int .i64 0]) ?_ rfl ?_
              · simp [results, Try.results20, go_sem]
              · rw [appP, HE.out, if_pos rfl]
                have p1 := O6.out
                have p2 := O7.out
                simp only [xt_xt, xt_drew] at p1 p2
                refine ⟨a6, a7, c6, c7, rfl, hc6, hc7, (Own1.far (by simp) p1 (by simp <;> omega)).low (by simp <;> omega), (Own1.far (by simp) p2 (by simp <;> omega)).low (by simp <;> omega), (by repeat (first | with_reducible exact Gr.refl _ | with_reducible refine Gr.alloc _ ?_ | with_reducible refine Gr.xt _ _ ?_ | with_reducible refine Gr.drew ?_))⟩
        · have q2 : (p.kind == 2) = false := by simp [hk2]
          have q3 : (p.kind != 3) = false := by
            have := hk
            simp only [not_and, Classical.not_not] at this
            simp [this hk2]
          have K2 := Lib.hid hk2
          clear hk hk2
          by_cases hv0 : p.value < 0
          · have w0 : decide (p.value < 0) = true := by simpa using hv0
            have V0 := Lib.hid hv0
            clear hv0
            have HE : Hid (appE l r p = 2) := Lib.hid (by rw [appE, if_pos HB.out, if_neg HK.out, if_neg HU.out, if_pos (.inl V0.out)])
            go_wp2_with fail
            refine wp_region_growsx (by kernel_rfl) (by kernel_rfl) ?_
            repeat (go_big_quiet_step (fail))
            refine wpQuiet_nil ?_
            rintro _ ⟨⟨O5, d5⟩, rfl⟩
            go_wp2_with fail
            refine bodyPost_ret (v := .tuple #[.agg #[.slice none 0 0, .slice none 0 0], .int .i64 2]) ?_ rfl ?_
            · simp [results, Try.results20, go_sem]
            · rw [appP, HE.out, if_neg (by omega)]
              exact givesRo_no (by repeat (first | with_reducible exact Gr.refl _ | with_reducible refine Gr.alloc _ ?_ | with_reducible refine Gr.xt _ _ ?_ | with_reducible refine Gr.drew ?_))
          · have w0 : decide (p.value < 0) = false := by simpa using hv0
            by_cases hv1 : 1 < p.value
            · have w1 : decide (1 < p.value) = true := by simpa using hv1
              have V1 := Lib.hid hv1
              clear hv0 hv1
              have HE : Hid (appE l r p = 2) := Lib.hid (by rw [appE, if_pos HB.out, if_neg HK.out, if_neg HU.out, if_pos (.inr (.inr ⟨K2.out, V1.out⟩))])
              go_wp2_with fail
              refine wp_region_growsx (by kernel_rfl) (by kernel_rfl) ?_
              repeat (go_big_quiet_step (fail))
              refine wpQuiet_nil ?_
              rintro _ ⟨⟨O5, d5⟩, rfl⟩
              go_wp2_with fail
              refine bodyPost_ret (v := .tuple #[.agg #[.slice none 0 0, .slice none 0 0], .int .i64 2]) ?_ rfl ?_
              · simp [results, Try.results20, go_sem]
              · rw [appP, HE.out, if_neg (by omega)]
                exact givesRo_no (by repeat (first | with_reducible exact Gr.refl _ | with_reducible refine Gr.alloc _ ?_ | with_reducible refine Gr.xt _ _ ?_ | with_reducible refine Gr.drew ?_))
            · have w1 : decide (1 < p.value) = false := by simp; omega
              have V0 := Lib.hid hv0
              have V1 := Lib.hid hv1
              clear hv0 hv1
              have HE : Hid (appE l r p = 0) := Lib.hid (by rw [appE, if_pos HB.out, if_neg HK.out, if_neg HU.out, if_neg (fun q => q.elim V0.out (fun q => q.elim (fun q => K2.out q.1) (fun q => V1.out q.2)))])
              go_wp2_with fail
              refine wp_region_growsx (by kernel_rfl) (by kernel_rfl) ?_
              repeat (go_big_quiet_step (fail))
              refine wpQuiet_nil ?_
              rintro _ ⟨⟨O5, d5⟩, rfl⟩
              clear q1 xq
              go_wp2_with fail
              have AA := fun W hh1 hh2 => applied_any r p l.length u a1 a2 c1 c2 W hh1 hh2 ra.out.2.1 ra.out.2.2.1 n16 UN.out hul
              rw [UN.out] at AA
              refine (AA _ (H1.out.giB (by repeat (first | with_reducible exact Gr.refl _ | with_reducible refine Gr.alloc _ ?_ | with_reducible refine Gr.xt _ _ ?_ | with_reducible refine Gr.drew ?_))) (H2.out.giI (by repeat (first | with_reducible exact Gr.refl _ | with_reducible refine Gr.alloc _ ?_ | with_reducible refine Gr.xt _ _ ?_ | with_reducible refine Gr.drew ?_)))).mono ?_
              clear AA
              rintro e w' ⟨a6, c6, a7, c7, rfl, hc6, hc7, o1, o2, O2, d2, rfl⟩
              have O6 := Lib.hid o1
              have O7 := Lib.hid o2
              clear o1 o2
              go_wp2_with fail
              refine bodyPost_ret (v := .tuple #[.agg #[.slice a6 (applyR r p).on.length c6, .slice a7 (applyR r p).level.length c7], .int .i64 0]) ?_ rfl ?_
              · simp [results, Try.results20, go_sem]
              · rw [appP, HE.out, if_pos rfl]
                have p1 := O6.out
                have p2 := O7.out
                simp only [xt_xt, xt_drew] at p1 p2
                refine ⟨a6, a7, c6, c7, rfl, hc6, hc7, (Own1.far (by simp) p1 (by simp <;> omega)).low (by simp <;> omega), (Own1.far (by simp) p2 (by simp <;> omega)).low (by simp <;> omega), (by repeat (first | with_reducible exact Gr.refl _ | with_reducible refine Gr.alloc _ ?_ | with_reducible refine Gr.xt _ _ ?_ | with_reducible refine Gr.drew ?_))⟩
  · have hbb : (begR l [r] != 0) = true := by simpa using hb
    have HE : Hid (appE l r p = begR l [r]) := Lib.hid (by rw [appE, if_neg hb])
    have HB := Lib.hid hb
    clear hb
    by_cases hk : p.kind = 2
    · have hk2 : (p.kind == 2) = true := by simp [hk]
      clear hk
      go_wp2_with fail
      refine bodyPost_ret (v := .tuple #[.agg #[.slice none 0 0, .slice none 0 0], .int .i64 (begR l [r])]) ?_ rfl ?_
      · simp [results, Try.results20, go_sem]
      · rw [appP, HE.out, if_neg HB.out]
        exact givesRo_no (by repeat (first | with_reducible exact Gr.refl _ | with_reducible refine Gr.alloc _ ?_ | with_reducible refine Gr.xt _ _ ?_ | with_reducible refine Gr.drew ?_))
    · have hk2 : (p.kind == 2) = false := by simp [hk]
      clear hk
      go_wp2_with fail
      refine bodyPost_ret (v := .tuple #[.agg #[.slice none 0 0, .slice none 0 0], .int .i64 (begR l [r])]) ?_ rfl ?_
      · simp [results, Try.results20, go_sem]
      · rw [appP, HE.out, if_neg HB.out]
        exact givesRo_no (by repeat (first | with_reducible exact Gr.refl _ | with_reducible refine Gr.alloc _ ?_ | with_reducible refine Gr.xt _ _ ?_ | with_reducible refine Gr.drew ?_))
theorem refCopied_any (r : Rls) (a1 a2 : Option Addr) (c1 c2 : Nat) (w : World) (h1 : SlOf 1 RB w a1 r.on) (h2 : SlOf 1 RI w a2 r.level) (p1 : 0 < r.on.length) (p2 : 0 < r.level.length) (f1 : r.on.length ≤ 1000000) (f2 : r.level.length ≤ 1000000) :
    Calls Try.prog 45 #[.agg #[.slice a1 r.on.length c1, .slice a2 r.level.length c2]] w (GivesRls w r) := by
  have H1 := Lib.hid h1
  have H2 := Lib.hid h2
  obtain ⟨b1, o1, rfl, _⟩ := h1.one 0 p1
  obtain ⟨b2, o2, rfl, _⟩ := h2.one 0 p2
  clear h1 h2
  obtain ⟨i0, hi, hz0, hz1, hz2⟩ := info_parts infoInt
  obtain ⟨j0, hj, hy0, hy1, hy2⟩ := info_parts infoBool
  go_enter Try.func45, Try.ntmps45
  go_wp2_with fail
  go_region_law (first
    | (refine step_append_fresh _ rfl _ _ 29 rfl 4 j0 (.bool false) 1 Try.underlying29 hj hy0 hy1 hy2 _ ⟨b1, o1, none⟩ r.on.length c1 (bools r.on) (by simp [Act.eval, Act.put]; rfl) (by simp [Act.eval, Act.put]) (by simp [bools]) (slB_cells (H1.out.giB (by repeat (first | with_reducible exact Gr.refl _ | with_reducible refine Gr.drew ?_ | with_reducible refine Gr.alloc _ ?_)))) p1 f1 (by omega) _ rfl ?_; intro cO ZO hcO)
    | (refine step_append_fresh _ rfl _ _ 22 rfl 3 i0 (.int .i64 0) 8 Try.underlying22 hi hz0 hz1 hz2 _ ⟨b2, o2, none⟩ r.level.length c2 (nums r.level) (by simp [Act.eval, Act.put]; rfl) (by simp [Act.eval, Act.put]) (by simp [nums]) (slI_cells (H2.out.giI (by repeat (first | with_reducible exact Gr.refl _ | with_reducible refine Gr.drew ?_ | with_reducible refine Gr.alloc _ ?_)))) p2 f2 (by omega) _ rfl ?_; intro cL ZL hcL))
  all_goals go_wp2_with fail
  all_goals
    refine bodyPost_ret (by simp [results, Try.results45, go_sem]; exact rfl) rfl ?_
    refine ⟨_, _, _, _, rfl, hcO, hcL, Own1.row (B := _) ?_ ?_, Own1.row (B := _) ?_ ?_, ?_⟩
  all_goals (try omega)
  all_goals (repeat (first | with_reducible exact Gr.refl _ | with_reducible refine Gr.drew ?_ | with_reducible refine Gr.alloc _ ?_ | (with_reducible refine row_fresh' _ _ _ _ _ ?_; simp) | with_reducible refine RowS.drew ?_ | with_reducible refine RowS.alloc _ ?_))
def WOk (l : List Sup) (p : Wri) : Prop := (p.kind = 2 ∨ p.kind = 3) ∧ 0 ≤ p.unit ∧ p.unit < l.length ∧ ¬ BadVal l p
theorem WOk.appE {l : List Sup} {r : Rls} {p : Wri} (h : WOk l p) (hr : RlsOk l r) : appE l r p = 0 := by
  obtain ⟨h1, h2, h3, h4⟩ := h
  rw [Go.Proofs.Ytoenkcojfogmmaa.appE, if_pos (begR_of hr.1 (by simp; exact hr)), if_neg (by omega), if_neg (by omega), if_neg h4]
theorem applyR_ok {l : List Sup} {r : Rls} {p : Wri} (h : WOk l p) (hr : RlsOk l r) : RlsOk l (applyR r p) := by
  obtain ⟨h1, h2, h3, h4⟩ := h
  refine ⟨hr.1, by rw [applyR_on_len]; exact hr.2.1, by rw [applyR_lv_len]; exact hr.2.2.1, fun k hk hk' => ?_⟩
  have hk2 : k < r.level.length := by rw [applyR_lv_len] at hk'; exact hk'
  by_cases e : p.kind = 2
  · have hl : (applyR r p).level = r.level.set p.unit.toNat p.value := by rw [applyR, if_pos e]
    simp only [hl, List.getElem_set]
    split
    · rename_i q
      unfold BadVal lvLen at h4
      rw [dif_pos ⟨h2, h3⟩] at h4
      subst q
      constructor <;> omega
    · exact hr.2.2.2 k hk hk2
  · have hl : (applyR r p).level = r.level := by rw [applyR, if_neg e]
    simp only [hl]
    exact hr.2.2.2 k hk hk2
theorem rls_fit' {l : List Sup} {r : Rls} (h : RlsOk l r) : l.length ≤ 16 := by
  have hz := (chk_zero h.1).1
  simp only [BigZ, not_or] at hz
  omega
theorem refApply_ok (l : List Sup) (r : Rls) (p : Wri) (ao a1 a2 : Option Addr) (cap c1 c2 : Nat) (w : World) (h : SlOf 5 RSup w ao l) (h1 : SlOf 1 RB w a1 r.on) (h2 : SlOf 1 RI w a2 r.level)
    (hr : RlsOk l r) (hw : WOk l p) :
    Calls Try.prog 31 #[.slice ao l.length cap, .agg #[.slice a1 r.on.length c1, .slice a2 r.level.length c2], .agg #[.int .i64 p.kind, .int .i64 p.unit, .int .i64 p.value]] w (GivesRo w (applyR r p) 0) := by
  have H := Lib.hid h
  have H1 := Lib.hid h1
  have H2 := Lib.hid h2
  have RO := Lib.hid hr
  have WW := Lib.hid hw
  have ff := rls_fit' hr
  have n16 : l.length ≤ 16 := ff
  have n1 := hr.2.1
  have n2 := hr.2.2.1
  have HF : Hid (Fit l.length) := Lib.hid (by unfold Fit; omega)
  have F1 : Hid (Fit r.on.length) := Lib.hid (by unfold Fit; omega)
  have F2 : Hid (Fit r.level.length) := Lib.hid (by unfold Fit; omega)
  obtain ⟨hk, hu0, hu1, hbv⟩ := hw
  obtain ⟨u, hun⟩ := Int.eq_ofNat_of_zero_le hu0
  have hul : u < l.length := by omega
  have u1 : u < r.on.length := by omega
  have u2 : u < r.level.length := by omega
  have M1 : Hid (r.on.length ≤ 1000000 ∧ r.level.length ≤ 1000000) := Lib.hid ⟨by omega, by omega⟩
  have UN := Lib.hid hun
  have hcb := hr.1
  have HRB : Hid (decide (RlsOk l r) = true) := Lib.hid (by simp [hr])
  have hlv : lvLen l p.unit = l[u].levels.length := by simp [lvLen, hun, hul]
  unfold BadVal at hbv
  rw [hlv] at hbv
  have v0 : decide (p.value < 0) = false := by simp; omega
  obtain ⟨b, o, rfl, _, ⟨al, cl, q1, _, _, _⟩, _⟩ := h u hul
  have xq := has_of_cell q1
  have g0 : (0 : Int) ≤ u := by omega
  have g1 : (u : Int) < l.length := by omega
  have g2 : (u : Int) < r.on.length := by omega
  have g3 : (u : Int) < r.level.length := by omega
  have hku := Lib.hid hk
  have HBV := Lib.hid hbv
  clear h h1 h2 hr ff n1 n2 hu0 hu1 hlv
  rw [hun]
  clear hun
  have HC := Lib.hid hcb
  clear hcb
  go_enter Try.func31, Try.ntmps31
  go_wp2_with fail
  refine (refCheck_anyZ l _ cap _ (sups_gr H.out (by repeat (first | with_reducible exact Gr.refl _ | with_reducible refine Gr.alloc _ ?_ | with_reducible refine Gr.xt _ _ ?_ | with_reducible refine Gr.drew ?_)) ) HF.out).mono ?_
  rw [HC.out]
  rintro e w' ⟨rfl, O1, d1, rfl⟩
  go_wp2_with fail
  refine (refRails_any l r _ a1 a2 cap c1 c2 _ (sups_gr H.out (by repeat (first | with_reducible exact Gr.refl _ | with_reducible refine Gr.alloc _ ?_ | with_reducible refine Gr.xt _ _ ?_ | with_reducible refine Gr.drew ?_)) ) HF.out (H1.out.giB (by repeat (first | with_reducible exact Gr.refl _ | with_reducible refine Gr.alloc _ ?_ | with_reducible refine Gr.xt _ _ ?_ | with_reducible refine Gr.drew ?_)) ) (H2.out.giI (by repeat (first | with_reducible exact Gr.refl _ | with_reducible refine Gr.alloc _ ?_ | with_reducible refine Gr.xt _ _ ?_ | with_reducible refine Gr.drew ?_)) ) F1.out F2.out).mono ?_
  rw [HRB.out]
  rintro e w' ⟨rfl, O2, d2, rfl⟩
  rcases hk with hk | hk
  · have K2 := Lib.hid hk
    rw [hk]
    have w1 : decide ((l[u].levels.length : Int) ≤ p.value) = false := by simp; omega
    clear hk hbv
    go_wp2_with fail
    refine wp_region_growsx (by kernel_rfl) (by kernel_rfl) ?_
    repeat (go_big_quiet_step (fail))
    refine wpQuiet_nil ?_
    rintro _ ⟨⟨O5, d5⟩, rfl⟩
    clear q1 xq
    go_wp2_with fail
    refine (refCopied_any r a1 a2 c1 c2 _ (H1.out.giB (by repeat (first | with_reducible exact Gr.refl _ | with_reducible refine Gr.alloc _ ?_ | with_reducible refine Gr.xt _ _ ?_ | with_reducible refine Gr.drew ?_)) ) (H2.out.giI (by repeat (first | with_reducible exact Gr.refl _ | with_reducible refine Gr.alloc _ ?_ | with_reducible refine Gr.xt _ _ ?_ | with_reducible refine Gr.drew ?_)) ) (by omega) (by omega) M1.out.1 M1.out.2).mono ?_
    rintro e W1 ⟨a5, c5, a6, c6, rfl, hc5, hc6, o1, o2, hg⟩
    obtain ⟨B1, rfl, hB1, q1⟩ := o1.at (by simp [bools]; omega)
    obtain ⟨B2, rfl, hB2, q2⟩ := o2.at (by simp [nums]; omega)
    have Q1 := Lib.hid q1
    have Q2 := Lib.hid q2
    have e0 : W1.cell? ⟨w.heap.size + 1, 0, none⟩ = some (.int .i64 2) := cell_gr hg (by simp [go_sem])
    have e1 : W1.cell? ⟨w.heap.size + 1, 1, none⟩ = some (.int .i64 u) := cell_gr hg (by simp [go_sem])
    have e2 : W1.cell? ⟨w.heap.size + 1, 2, none⟩ = some (.int .i64 p.value) := cell_gr hg (by simp [go_sem])
    have x0 := has_of_cell e0
    have r0 : Row W1 (w.heap.size + 2) 31 [.slice none 0 0, .slice none 0 0] := by
      have := Row.new ((w.alloc (.cells #[.slice a1 r.on.length c1, .slice a2 r.level.length c2] 31)).alloc (.cells #[.int .i64 2, .int .i64 u, .int .i64 p.value] 46)) #[.slice none 0 0, .slice none 0 0] 31
      simp only [World.size_alloc] at this
      exact (this.xt _ _).gr hg
    have R0 := Lib.hid r0
    have y0 := r0.cell 0 (by simp)
    have y1 := r0.cell 1 (by simp)
    simp only [List.getElem_cons_zero, List.getElem_cons_succ] at y0 y1
    have y2 := r0.free 0
    have y3 := r0.free 1
    have yh := r0.has
    have sz : w.heap.size + 3 ≤ W1.heap.size := by have := hg.size; simp at this; omega
    have z1 := q1.has
    have z2 := q2.has
    have z3 := q1.free u
    have z4 := q2.free u
    have z5 := q1.bat u u1
    have z6 := q2.iat u u2
    have t1 : B1 ≠ B2 := q1.apart q2 (by decide)
    have t2 : B1 ≠ W1.heap.size := by have : B1 < W1.heap.size := q1.has; omega
    have t3 : B2 ≠ W1.heap.size := by have : B2 < W1.heap.size := q2.has; omega
    have t4 : w.heap.size + 3 ≤ B1 := by simp at hB1; omega
    have t5 : w.heap.size + 3 ≤ B2 := by simp at hB2; omega
    have GW : Hid (Gr w W1) := Lib.hid (Gr.trans (by repeat (first | with_reducible exact Gr.refl _ | with_reducible refine Gr.alloc _ ?_ | with_reducible refine Gr.xt _ _ ?_ | with_reducible refine Gr.drew ?_)) hg)
    clear o1 o2 hg q1 q2 r0 hB1 hB2
    go_wp2_with fail
    refine bodyPost_ret (v := .tuple #[.agg #[.slice (some ⟨B1, 0, none⟩) r.on.length c5, .slice (some ⟨B2, 0, none⟩) r.level.length c6], .int .i64 0]) ?_ rfl ?_
    · simp [results, Try.results31, go_sem, y0, y1, yh, t1, t2, t3, z1, z2]
    · rw [applyR_lv K2.out UN.out]
      refine ⟨some ⟨B1, 0, none⟩, some ⟨B2, 0, none⟩, c5, c6, by simp, by simpa using hc5, by simpa using hc6, ?_, ?_, ?_⟩
      · exact Own1.row (by omega) (by repeat (first | with_reducible exact Q1.out | with_reducible refine RowS.alloc _ ?_ | with_reducible refine RowS.oth ?_ (by omega)))
      · exact Own1.row (by omega) (by repeat (first | with_reducible exact Q2.out.iset u u2 _ | with_reducible refine RowS.alloc _ ?_ | with_reducible refine RowS.oth ?_ (by omega)))
      · repeat (first | with_reducible exact GW.out | with_reducible refine Gr.alloc _ ?_ | with_reducible refine Gr.setc (by omega) ?_)
  · have K2 := Lib.hid hk
    rw [hk]
    have w1 : decide (1 < p.value) = false := by simp; omega
    clear hk hbv
    go_wp2_with fail
    refine wp_region_growsx (by kernel_rfl) (by kernel_rfl) ?_
    repeat (go_big_quiet_step (fail))
    refine wpQuiet_nil ?_
    rintro _ ⟨⟨O5, d5⟩, rfl⟩
    clear q1 xq
    go_wp2_with fail
    refine (refCopied_any r a1 a2 c1 c2 _ (H1.out.giB (by repeat (first | with_reducible exact Gr.refl _ | with_reducible refine Gr.alloc _ ?_ | with_reducible refine Gr.xt _ _ ?_ | with_reducible refine Gr.drew ?_)) ) (H2.out.giI (by repeat (first | with_reducible exact Gr.refl _ | with_reducible refine Gr.alloc _ ?_ | with_reducible refine Gr.xt _ _ ?_ | with_reducible refine Gr.drew ?_)) ) (by omega) (by omega) M1.out.1 M1.out.2).mono ?_
    rintro e W1 ⟨a5, c5, a6, c6, rfl, hc5, hc6, o1, o2, hg⟩
    obtain ⟨B1, rfl, hB1, q1⟩ := o1.at (by simp [bools]; omega)
    obtain ⟨B2, rfl, hB2, q2⟩ := o2.at (by simp [nums]; omega)
    have Q1 := Lib.hid q1
    have Q2 := Lib.hid q2
    have e0 : W1.cell? ⟨w.heap.size + 1, 0, none⟩ = some (.int .i64 3) := cell_gr hg (by simp [go_sem])
    have e1 : W1.cell? ⟨w.heap.size + 1, 1, none⟩ = some (.int .i64 u) := cell_gr hg (by simp [go_sem])
    have e2 : W1.cell? ⟨w.heap.size + 1, 2, none⟩ = some (.int .i64 p.value) := cell_gr hg (by simp [go_sem])
    have x0 := has_of_cell e0
    have r0 : Row W1 (w.heap.size + 2) 31 [.slice none 0 0, .slice none 0 0] := by
      have := Row.new ((w.alloc (.cells #[.slice a1 r.on.length c1, .slice a2 r.level.length c2] 31)).alloc (.cells #[.int .i64 3, .int .i64 u, .int .i64 p.value] 46)) #[.slice none 0 0, .slice none 0 0] 31
      simp only [World.size_alloc] at this
      exact (this.xt _ _).gr hg
    have R0 := Lib.hid r0
    have y0 := r0.cell 0 (by simp)
    have y1 := r0.cell 1 (by simp)
    simp only [List.getElem_cons_zero, List.getElem_cons_succ] at y0 y1
    have y2 := r0.free 0
    have y3 := r0.free 1
    have yh := r0.has
    have sz : w.heap.size + 3 ≤ W1.heap.size := by have := hg.size; simp at this; omega
    have z1 := q1.has
    have z2 := q2.has
    have z3 := q1.free u
    have z4 := q2.free u
    have z5 := q1.bat u u1
    have z6 := q2.iat u u2
    have t1 : B1 ≠ B2 := q1.apart q2 (by decide)
    have t2 : B1 ≠ W1.heap.size := by have : B1 < W1.heap.size := q1.has; omega
    have t3 : B2 ≠ W1.heap.size := by have : B2 < W1.heap.size := q2.has; omega
    have t4 : w.heap.size + 3 ≤ B1 := by simp at hB1; omega
    have t5 : w.heap.size + 3 ≤ B2 := by simp at hB2; omega
    have GW : Hid (Gr w W1) := Lib.hid (Gr.trans (by repeat (first | with_reducible exact Gr.refl _ | with_reducible refine Gr.alloc _ ?_ | with_reducible refine Gr.xt _ _ ?_ | with_reducible refine Gr.drew ?_)) hg)
    clear o1 o2 hg q1 q2 r0 hB1 hB2
    go_wp2_with fail
    refine bodyPost_ret (v := .tuple #[.agg #[.slice (some ⟨B1, 0, none⟩) r.on.length c5, .slice (some ⟨B2, 0, none⟩) r.level.length c6], .int .i64 0]) ?_ rfl ?_
    · simp [results, Try.results31, go_sem, y0, y1, yh, t1, t2, t3, z1, z2]
    · rw [applyR_on (by have := K2.out; omega) UN.out]
      refine ⟨some ⟨B1, 0, none⟩, some ⟨B2, 0, none⟩, c5, c6, by simp, by simpa using hc5, by simpa using hc6, ?_, ?_, ?_⟩
      · exact Own1.row (by omega) (by repeat (first | with_reducible exact Q1.out.bset u u1 _ | with_reducible refine RowS.alloc _ ?_ | with_reducible refine RowS.oth ?_ (by omega)))
      · exact Own1.row (by omega) (by repeat (first | with_reducible exact Q2.out | with_reducible refine RowS.alloc _ ?_ | with_reducible refine RowS.oth ?_ (by omega)))
      · repeat (first | with_reducible exact GW.out | with_reducible refine Gr.alloc _ ?_ | with_reducible refine Gr.setc (by omega) ?_)
theorem begR_chk {l : List Sup} {rs : List Rls} (h : chk l ≠ 0) : begR l rs = chk l := by rw [begR, if_neg h]
theorem begR_bad {l : List Sup} {r : Rls} (h : chk l = 0) (hr : ¬ RlsOk l r) : begR l [r] = 1 := by
  rw [begR, if_pos h, if_pos ⟨0, by simp, by simpa using hr⟩]
theorem begR_good {l : List Sup} {r : Rls} (hr : RlsOk l r) : begR l [r] = 0 := begR_of hr.1 (by simp; exact hr)
theorem refApply_anyZ (l : List Sup) (r : Rls) (p : Wri) (ao a1 a2 : Option Addr) (cap c1 c2 : Nat) (w : World) (h : SlOf 5 RSup w ao l) (hf : Fit l.length) (h1 : SlOf 1 RB w a1 r.on) (h2 : SlOf 1 RI w a2 r.level)
    (f1 : Fit r.on.length) (f2 : Fit r.level.length) (hp : WWide p) :
    Calls Try.prog 31 #[.slice ao l.length cap, .agg #[.slice a1 r.on.length c1, .slice a2 r.level.length c2], .agg #[.int .i64 p.kind, .int .i64 p.unit, .int .i64 p.value]] w (GivesRo w (appP l r p) (appE l r p)) := by
  by_cases hgood : RlsOk l r ∧ WOk l p
  · rw [appP, if_pos (hgood.2.appE hgood.1), hgood.2.appE hgood.1]
    exact refApply_ok l r p ao a1 a2 cap c1 c2 w h h1 h2 hgood.1 hgood.2
  have fin : ∀ x : Int, appE l r p = x → x ≠ 0 → ∀ (e : Ending) (w' : World), e = .returned (.tuple #[.agg #[.slice none 0 0, .slice none 0 0], .int .i64 x]) → Gr w w' → GivesRo w (appP l r p) (appE l r p) e w' := by
    intro x hx h0 e w' he hg
    rw [appP, hx, if_neg h0, he]
    exact givesRo_no hg
  have FIN := Lib.hid fin
  have H := Lib.hid h
  have H1 := Lib.hid h1
  have H2 := Lib.hid h2
  have HF := Lib.hid hf
  have F1 := Lib.hid f1
  have F2 := Lib.hid f2
  have cw := chk_wide l
  clear fin h h1 h2 hf f1 f2
  by_cases hc : chk l ≠ 0
  · have AE : Hid (appE l r p = chk l) := Lib.hid (by rw [appE, begR_chk hc, if_neg hc])
    have HC := Lib.hid hc
    have hb : (chk l != 0) = true := by simpa using hc
    clear hc hgood
    generalize hx : chk l = x at *
    have HX := Lib.hid hx
    clear hx
    go_enter Try.func31, Try.ntmps31
    go_wp2_with fail
    refine (refCheck_anyZ l _ cap _ (sups_gr H.out (by repeat (first | with_reducible exact Gr.refl _ | with_reducible refine Gr.alloc _ ?_ | with_reducible refine Gr.xt _ _ ?_ | with_reducible refine Gr.drew ?_))) HF.out).mono ?_
    rw [HX.out]
    rintro e w' ⟨rfl, O1, d1, rfl⟩
    go_wp2_with fail
    refine bodyPost_ret (v := .tuple #[.agg #[.slice none 0 0, .slice none 0 0], .int .i64 (x)]) ?_ rfl ?_
    · simp [results, Try.results31, go_sem]
    · exact FIN.out _ AE.out (by exact HC.out) _ _ rfl (by repeat (first | with_reducible exact Gr.refl _ | with_reducible refine Gr.alloc _ ?_ | with_reducible refine Gr.xt _ _ ?_ | with_reducible refine Gr.drew ?_))
  have hc := Classical.not_not.1 hc
  have HC := Lib.hid hc
  by_cases hr : RlsOk l r
  · have RO := Lib.hid hr
    have hbg := begR_good hr
    by_cases hk : p.kind ≠ 2 ∧ p.kind ≠ 3
    · have AE : Hid (appE l r p = 1) := Lib.hid (by rw [appE, if_pos hbg, if_pos hk])
      obtain ⟨k2, k3⟩ := hk
      have k2' : (p.kind != 2) = true := by simpa using k2
      have k3' : (p.kind != 3) = true := by simpa using k3
      clear hgood hr hbg hc k2 k3
      go_enter Try.func31, Try.ntmps31
      go_wp2_with fail
      refine (refCheck_anyZ l _ cap _ (sups_gr H.out (by repeat (first | with_reducible exact Gr.refl _ | with_reducible refine Gr.alloc _ ?_ | with_reducible refine Gr.xt _ _ ?_ | with_reducible refine Gr.drew ?_))) HF.out).mono ?_
      rw [HC.out]
      rintro e w' ⟨rfl, O1, d1, rfl⟩
      go_wp2_with fail
      refine (refRails_any l r _ a1 a2 cap c1 c2 _ (sups_gr H.out (by repeat (first | with_reducible exact Gr.refl _ | with_reducible refine Gr.alloc _ ?_ | with_reducible refine Gr.xt _ _ ?_ | with_reducible refine Gr.drew ?_))) HF.out (H1.out.giB (by repeat (first | with_reducible exact Gr.refl _ | with_reducible refine Gr.alloc _ ?_ | with_reducible refine Gr.xt _ _ ?_ | with_reducible refine Gr.drew ?_))) (H2.out.giI (by repeat (first | with_reducible exact Gr.refl _ | with_reducible refine Gr.alloc _ ?_ | with_reducible refine Gr.xt _ _ ?_ | with_reducible refine Gr.drew ?_))) F1.out F2.out).mono ?_
      rw [decide_eq_true RO.out]
      rintro e w' ⟨rfl, O2, d2, rfl⟩
      go_wp2_with fail
      refine bodyPost_ret (v := .tuple #[.agg #[.slice none 0 0, .slice none 0 0], .int .i64 (1)]) ?_ rfl ?_
      · simp [results, Try.results31, go_sem]
      · exact FIN.out _ AE.out (by omega) _ _ rfl (by repeat (first | with_reducible exact Gr.refl _ | with_reducible refine Gr.alloc _ ?_ | with_reducible refine Gr.xt _ _ ?_ | with_reducible refine Gr.drew ?_))
    have hk' : p.kind = 2 ∨ p.kind = 3 := by omega
    have kb : ((p.kind != 2) = true ∧ (p.kind != 3) = false) ∨ (p.kind != 2) = false := by
      rcases hk' with q | q
      · right; simp [q]
      · left; simp [q]
    by_cases hu : p.unit < 0 ∨ (l.length : Int) ≤ p.unit
    · have AE : Hid (appE l r p = 4) := Lib.hid (by rw [appE, if_pos hbg, if_neg hk, if_pos hu])
      clear hgood hr hbg hc hk hk'
      have hub : (p.unit < 0) ∨ (0 ≤ p.unit ∧ (l.length : Int) ≤ p.unit) := by omega
      clear hu
      rcases kb with ⟨kb1, kb2⟩ | kb1
      all_goals
        rcases hub with hub | ⟨hub0, hub⟩
        all_goals
          go_enter Try.func31, Try.ntmps31
          go_wp2_with fail
          refine (refCheck_anyZ l _ cap _ (sups_gr H.out (by repeat (first | with_reducible exact Gr.refl _ | with_reducible refine Gr.alloc _ ?_ | with_reducible refine Gr.xt _ _ ?_ | with_reducible refine Gr.drew ?_))) HF.out).mono ?_
          rw [HC.out]
          rintro e w' ⟨rfl, O1, d1, rfl⟩
          go_wp2_with fail
          refine (refRails_any l r _ a1 a2 cap c1 c2 _ (sups_gr H.out (by repeat (first | with_reducible exact Gr.refl _ | with_reducible refine Gr.alloc _ ?_ | with_reducible refine Gr.xt _ _ ?_ | with_reducible refine Gr.drew ?_))) HF.out (H1.out.giB (by repeat (first | with_reducible exact Gr.refl _ | with_reducible refine Gr.alloc _ ?_ | with_reducible refine Gr.xt _ _ ?_ | with_reducible refine Gr.drew ?_))) (H2.out.giI (by repeat (first | with_reducible exact Gr.refl _ | with_reducible refine Gr.alloc _ ?_ | with_reducible refine Gr.xt _ _ ?_ | with_reducible refine Gr.drew ?_))) F1.out F2.out).mono ?_
          rw [decide_eq_true RO.out]
          rintro e w' ⟨rfl, O2, d2, rfl⟩
          go_wp2_with fail
          refine bodyPost_ret (v := .tuple #[.agg #[.slice none 0 0, .slice none 0 0], .int .i64 (4)]) ?_ rfl ?_
          · simp [results, Try.results31, go_sem]
          · exact FIN.out _ AE.out (by omega) _ _ rfl (by repeat (first | with_reducible exact Gr.refl _ | with_reducible refine Gr.alloc _ ?_ | with_reducible refine Gr.xt _ _ ?_ | with_reducible refine Gr.drew ?_))
    have hbad : BadVal l p := Classical.byContradiction fun q => hgood ⟨hr, hk', by omega, by omega, q⟩
    have AE : Hid (appE l r p = 2) := Lib.hid (by rw [appE, if_pos hbg, if_neg hk, if_neg hu, if_pos hbad])
    obtain ⟨u, hun⟩ : ∃ u : Nat, p.unit = (u : Int) := ⟨p.unit.toNat, by omega⟩
    have hul : u < l.length := by omega
    have hlv : lvLen l p.unit = l[u].levels.length := by simp [lvLen, hun, hul]
    unfold BadVal at hbad
    rw [hlv] at hbad
    obtain ⟨b, o, rfl, -, ⟨al, cl, q1, -, -, -⟩, -⟩ := H.out u hul
    have xq := has_of_cell q1
    have g0 : (0 : Int) ≤ u := by omega
    have g1 : (u : Int) < l.length := by omega
    have lw : (l[u].levels.length : Int) < 17 := by
      have hz := (chk_zero hc).1
      simp only [BigZ, not_or] at hz
      have : ¬ 16 < l[u].levels.length := fun q => hz.2 ⟨u, hul, q⟩
      omega
    clear hgood hr hbg hc hk hu hlv kb
    rw [hun]
    clear hun
    have cases4 : (p.value < 0 ∧ p.kind = 2) ∨ (p.value < 0 ∧ p.kind = 3) ∨ (0 ≤ p.value ∧ p.kind = 2 ∧ (l[u].levels.length : Int) ≤ p.value) ∨ (0 ≤ p.value ∧ p.kind = 3 ∧ 1 < p.value) := by omega
    clear hbad hk'
    obtain ⟨vl, hvl⟩ : ∃ v, v = p.value := ⟨_, rfl⟩
    obtain ⟨kd, hkd⟩ : ∃ v, v = p.kind := ⟨_, rfl⟩
    rw [← hvl, ← hkd] at cases4 ⊢
    clear hvl hkd
    rcases cases4 with ⟨v0, rfl⟩ | ⟨v0, rfl⟩ | ⟨v0, rfl, v1⟩ | ⟨v0, rfl, v1⟩
    · have v2 : decide (vl < 0) = true := by simpa using v0
      go_enter Try.func31, Try.ntmps31
      go_wp2_with fail
      refine (refCheck_anyZ l _ cap _ (sups_gr H.out (by repeat (first | with_reducible exact Gr.refl _ | with_reducible refine Gr.alloc _ ?_ | with_reducible refine Gr.xt _ _ ?_ | with_reducible refine Gr.drew ?_))) HF.out).mono ?_
      rw [HC.out]
      rintro e w' ⟨rfl, O1, d1, rfl⟩
      go_wp2_with fail
      refine (refRails_any l r _ a1 a2 cap c1 c2 _ (sups_gr H.out (by repeat (first | with_reducible exact Gr.refl _ | with_reducible refine Gr.alloc _ ?_ | with_reducible refine Gr.xt _ _ ?_ | with_reducible refine Gr.drew ?_))) HF.out (H1.out.giB (by repeat (first | with_reducible exact Gr.refl _ | with_reducible refine Gr.alloc _ ?_ | with_reducible refine Gr.xt _ _ ?_ | with_reducible refine Gr.drew ?_))) (H2.out.giI (by repeat (first | with_reducible exact Gr.refl _ | with_reducible refine Gr.alloc _ ?_ | with_reducible refine Gr.xt _ _ ?_ | with_reducible refine Gr.drew ?_))) F1.out F2.out).mono ?_
      rw [decide_eq_true RO.out]
      rintro e w' ⟨rfl, O2, d2, rfl⟩
      go_wp2_with fail
      refine wp_region_growsx (by kernel_rfl) (by kernel_rfl) ?_
      repeat (go_big_quiet_step (fail))
      refine wpQuiet_nil ?_
      rintro _ ⟨⟨O5, d5⟩, rfl⟩
      clear q1 xq
      go_wp2_with fail
      refine bodyPost_ret (v := .tuple #[.agg #[.slice none 0 0, .slice none 0 0], .int .i64 (2)]) ?_ rfl ?_
      · simp [results, Try.results31, go_sem]
      · exact FIN.out _ AE.out (by omega) _ _ rfl (by repeat (first | with_reducible exact Gr.refl _ | with_reducible refine Gr.alloc _ ?_ | with_reducible refine Gr.xt _ _ ?_ | with_reducible refine Gr.drew ?_))
    · have v2 : decide (vl < 0) = true := by simpa using v0
      go_enter Try.func31, Try.ntmps31
      go_wp2_with fail
      refine (refCheck_anyZ l _ cap _ (sups_gr H.out (by repeat (first | with_reducible exact Gr.refl _ | with_reducible refine Gr.alloc _ ?_ | with_reducible refine Gr.xt _ _ ?_ | with_reducible refine Gr.drew ?_))) HF.out).mono ?_
      rw [HC.out]
      rintro e w' ⟨rfl, O1, d1, rfl⟩
      go_wp2_with fail
      refine (refRails_any l r _ a1 a2 cap c1 c2 _ (sups_gr H.out (by repeat (first | with_reducible exact Gr.refl _ | with_reducible refine Gr.alloc _ ?_ | with_reducible refine Gr.xt _ _ ?_ | with_reducible refine Gr.drew ?_))) HF.out (H1.out.giB (by repeat (first | with_reducible exact Gr.refl _ | with_reducible refine Gr.alloc _ ?_ | with_reducible refine Gr.xt _ _ ?_ | with_reducible refine Gr.drew ?_))) (H2.out.giI (by repeat (first | with_reducible exact Gr.refl _ | with_reducible refine Gr.alloc _ ?_ | with_reducible refine Gr.xt _ _ ?_ | with_reducible refine Gr.drew ?_))) F1.out F2.out).mono ?_
      rw [decide_eq_true RO.out]
      rintro e w' ⟨rfl, O2, d2, rfl⟩
      go_wp2_with fail
      refine wp_region_growsx (by kernel_rfl) (by kernel_rfl) ?_
      repeat (go_big_quiet_step (fail))
      refine wpQuiet_nil ?_
      rintro _ ⟨⟨O5, d5⟩, rfl⟩
      clear q1 xq
      go_wp2_with fail
      refine bodyPost_ret (v := .tuple #[.agg #[.slice none 0 0, .slice none 0 0], .int .i64 (2)]) ?_ rfl ?_
      · simp [results, Try.results31, go_sem]
      · exact FIN.out _ AE.out (by omega) _ _ rfl (by repeat (first | with_reducible exact Gr.refl _ | with_reducible refine Gr.alloc _ ?_ | with_reducible refine Gr.xt _ _ ?_ | with_reducible refine Gr.drew ?_))
    · have v2 : decide (vl < 0) = false := by simp; omega
      have v3 : decide ((l[u].levels.length : Int) ≤ vl) = true := by simpa using v1
      go_enter Try.func31, Try.ntmps31
      go_wp2_with fail
      refine (refCheck_anyZ l _ cap _ (sups_gr H.out (by repeat (first | with_reducible exact Gr.refl _ | with_reducible refine Gr.alloc _ ?_ | with_reducible refine Gr.xt _ _ ?_ | with_reducible refine Gr.drew ?_))) HF.out).mono ?_
      rw [HC.out]
      rintro e w' ⟨rfl, O1, d1, rfl⟩
      go_wp2_with fail
      refine (refRails_any l r _ a1 a2 cap c1 c2 _ (sups_gr H.out (by repeat (first | with_reducible exact Gr.refl _ | with_reducible refine Gr.alloc _ ?_ | with_reducible refine Gr.xt _ _ ?_ | with_reducible refine Gr.drew ?_))) HF.out (H1.out.giB (by repeat (first | with_reducible exact Gr.refl _ | with_reducible refine Gr.alloc _ ?_ | with_reducible refine Gr.xt _ _ ?_ | with_reducible refine Gr.drew ?_))) (H2.out.giI (by repeat (first | with_reducible exact Gr.refl _ | with_reducible refine Gr.alloc _ ?_ | with_reducible refine Gr.xt _ _ ?_ | with_reducible refine Gr.drew ?_))) F1.out F2.out).mono ?_
      rw [decide_eq_true RO.out]
      rintro e w' ⟨rfl, O2, d2, rfl⟩
      go_wp2_with fail
      refine wp_region_growsx (by kernel_rfl) (by kernel_rfl) ?_
      repeat (go_big_quiet_step (fail))
      refine wpQuiet_nil ?_
      rintro _ ⟨⟨O5, d5⟩, rfl⟩
      clear q1 xq
      go_wp2_with fail
      refine bodyPost_ret (v := .tuple #[.agg #[.slice none 0 0, .slice none 0 0], .int .i64 (2)]) ?_ rfl ?_
      · simp [results, Try.results31, go_sem]
      · exact FIN.out _ AE.out (by omega) _ _ rfl (by repeat (first | with_reducible exact Gr.refl _ | with_reducible refine Gr.alloc _ ?_ | with_reducible refine Gr.xt _ _ ?_ | with_reducible refine Gr.drew ?_))
    · have v2 : decide (vl < 0) = false := by simp; omega
      have v3 : decide (1 < vl) = true := by simpa using v1
      go_enter Try.func31, Try.ntmps31
      go_wp2_with fail
      refine (refCheck_anyZ l _ cap _ (sups_gr H.out (by repeat (first | with_reducible exact Gr.refl _ | with_reducible refine Gr.alloc _ ?_ | with_reducible refine Gr.xt _ _ ?_ | with_reducible refine Gr.drew ?_))) HF.out).mono ?_
      rw [HC.out]
      rintro e w' ⟨rfl, O1, d1, rfl⟩
      go_wp2_with fail
      refine (refRails_any l r _ a1 a2 cap c1 c2 _ (sups_gr H.out (by repeat (first | with_reducible exact Gr.refl _ | with_reducible refine Gr.alloc _ ?_ | with_reducible refine Gr.xt _ _ ?_ | with_reducible refine Gr.drew ?_))) HF.out (H1.out.giB (by repeat (first | with_reducible exact Gr.refl _ | with_reducible refine Gr.alloc _ ?_ | with_reducible refine Gr.xt _ _ ?_ | with_reducible refine Gr.drew ?_))) (H2.out.giI (by repeat (first | with_reducible exact Gr.refl _ | with_reducible refine Gr.alloc _ ?_ | with_reducible refine Gr.xt _ _ ?_ | with_reducible refine Gr.drew ?_))) F1.out F2.out).mono ?_
      rw [decide_eq_true RO.out]
      rintro e w' ⟨rfl, O2, d2, rfl⟩
      go_wp2_with fail
      refine wp_region_growsx (by kernel_rfl) (by kernel_rfl) ?_
      repeat (go_big_quiet_step (fail))
      refine wpQuiet_nil ?_
      rintro _ ⟨⟨O5, d5⟩, rfl⟩
      clear q1 xq
      go_wp2_with fail
      refine bodyPost_ret (v := .tuple #[.agg #[.slice none 0 0, .slice none 0 0], .int .i64 (2)]) ?_ rfl ?_
      · simp [results, Try.results31, go_sem]
      · exact FIN.out _ AE.out (by omega) _ _ rfl (by repeat (first | with_reducible exact Gr.refl _ | with_reducible refine Gr.alloc _ ?_ | with_reducible refine Gr.xt _ _ ?_ | with_reducible refine Gr.drew ?_))
  · have AE : Hid (appE l r p = 1) := Lib.hid (by rw [appE, begR_bad hc hr, if_neg (by decide)])
    have HR := Lib.hid hr
    clear hgood hr hc
    go_enter Try.func31, Try.ntmps31
    go_wp2_with fail
    refine (refCheck_anyZ l _ cap _ (sups_gr H.out (by repeat (first | with_reducible exact Gr.refl _ | with_reducible refine Gr.alloc _ ?_ | with_reducible refine Gr.xt _ _ ?_ | with_reducible refine Gr.drew ?_))) HF.out).mono ?_
    rw [HC.out]
    rintro e w' ⟨rfl, O1, d1, rfl⟩
    go_wp2_with fail
    refine (refRails_any l r _ a1 a2 cap c1 c2 _ (sups_gr H.out (by repeat (first | with_reducible exact Gr.refl _ | with_reducible refine Gr.alloc _ ?_ | with_reducible refine Gr.xt _ _ ?_ | with_reducible refine Gr.drew ?_))) HF.out (H1.out.giB (by repeat (first | with_reducible exact Gr.refl _ | with_reducible refine Gr.alloc _ ?_ | with_reducible refine Gr.xt _ _ ?_ | with_reducible refine Gr.drew ?_))) (H2.out.giI (by repeat (first | with_reducible exact Gr.refl _ | with_reducible refine Gr.alloc _ ?_ | with_reducible refine Gr.xt _ _ ?_ | with_reducible refine Gr.drew ?_))) F1.out F2.out).mono ?_
    rw [decide_eq_false HR.out]
    rintro e w' ⟨rfl, O2, d2, rfl⟩
    go_wp2_with fail
    refine bodyPost_ret (v := .tuple #[.agg #[.slice none 0 0, .slice none 0 0], .int .i64 (1)]) ?_ rfl ?_
    · simp [results, Try.results31, go_sem]
    · exact FIN.out _ AE.out (by omega) _ _ rfl (by repeat (first | with_reducible exact Gr.refl _ | with_reducible refine Gr.alloc _ ?_ | with_reducible refine Gr.xt _ _ ?_ | with_reducible refine Gr.drew ?_))
theorem run_append_none {P : Program} (w : World) (t ty e : TypeId) (i : TypeInfo) (ht : P.underlying t = some (.slice e)) (hi : P.info? e = some i) (b : Addr) (A : Option Addr) (c : Nat) :
    (Builtin.append_ #[t, t] ty #[.slice (some b) 0 0, .slice A 0 c]).run P w = .ok (.slice (some b) 0 0) w := by
  cases A with
  | none => simp [Builtin.append_, run_underlying ht, sizeOf, typeInfo, hi, Builtin.lenOf, Builtin.firstCells, storeCells]
  | some ad =>
    have h0 := run_loadCells_list (P := P) (w := w) ad [] (fun j v h => by simp at h)
    simp only [List.length_nil] at h0
    simp [Builtin.append_, run_underlying ht, sizeOf, typeInfo, hi, Builtin.lenOf, Builtin.firstCells, storeCells, h0]
theorem step_append_none {P : Program} (w : World) {ops : Array Oper} {o : Oper} {a : Act} {K : Act → World → Prop} {Q : Exit → Act → World → Prop} {E : Prop} (hgd : o.guard = none) (s x : Operand) (t : TypeId)
    (ho : o.op = .call { callee := .builtin .append, args := #[s, x], argTypes := #[t, t] }) (e : TypeId) (i : TypeInfo) (ht : P.underlying t = some (.slice e)) (hi : P.info? e = some i)
    (b : Addr) (A : Option Addr) (c : Nat) (hv : a.eval s = .slice (some b) 0 0) (hx : a.eval x = .slice A 0 c)
    (h : K (a.put o.dst (.slice (some b) 0 0)) w) :
    if Region.wanted o (yielded ops a.tmps) = true then Oper.wp P o a w K Q else E := by
  have hw : Region.wanted o (yielded ops a.tmps) = true := by simp [Region.wanted, hgd]
  rw [if_pos hw]
  unfold Oper.wp execOp
  simp only [ho, resolve, invoke, builtin, Sem.run_bind, Sem.run_pure, Result.andThen_ok, List.map_toArray, List.map_cons, List.map_nil, hv, hx, run_append_none w t o.type e i ht hi b A c]
  exact h
theorem refCopied0_any (a1 a2 : Option Addr) (c1 c2 : Nat) (w : World) :
    Calls Try.prog 45 #[.agg #[.slice a1 0 c1, .slice a2 0 c2]] w (GivesRls w ⟨[], []⟩) := by
  obtain ⟨i0, hi, hz0, hz1, hz2⟩ := info_parts infoInt
  obtain ⟨j0, hj, hy0, hy1, hy2⟩ := info_parts infoBool
  go_enter Try.func45, Try.ntmps45
  go_wp2_with fail
  go_region_law (first
    | (refine step_append_none _ rfl _ _ 29 rfl 4 j0 Try.underlying29 hj _ a1 c1 (by simp [Act.eval, Act.put]; rfl) (by simp [Act.eval, Act.put]) ?_)
    | (refine step_append_none _ rfl _ _ 22 rfl 3 i0 Try.underlying22 hi _ a2 c2 (by simp [Act.eval, Act.put]; rfl) (by simp [Act.eval, Act.put]) ?_))
  all_goals go_wp2_with fail
  all_goals
    refine bodyPost_ret (by simp [results, Try.results45, go_sem]; exact rfl) rfl ?_
    refine ⟨_, _, _, _, rfl, Nat.zero_le _, Nat.zero_le _, .inl rfl, .inl rfl, ?_⟩
  all_goals (repeat (first | with_reducible exact Gr.refl _ | with_reducible refine Gr.drew ?_ | with_reducible refine Gr.alloc _ ?_ | with_reducible refine Gr.xt _ _ ?_))
theorem refCopiedG_any (r : Rls) (a1 a2 : Option Addr) (c1 c2 : Nat) (w : World) (h1 : SlOf 1 RB w a1 r.on) (h2 : SlOf 1 RI w a2 r.level) (hl : r.on.length = r.level.length) (f1 : r.on.length ≤ 1000000) :
    Calls Try.prog 45 #[.agg #[.slice a1 r.on.length c1, .slice a2 r.level.length c2]] w (GivesRls w r) := by
  rcases Nat.eq_zero_or_pos r.on.length with e | e
  · obtain ⟨o, v⟩ := r
    simp only at e hl
    have e1 : o = [] := List.eq_nil_of_length_eq_zero e
    have e2 : v = [] := List.eq_nil_of_length_eq_zero (by omega)
    subst e1 e2
    exact refCopied0_any a1 a2 c1 c2 w
  · exact refCopied_any r a1 a2 c1 c2 w h1 h2 e (by omega) f1 (by omega)
theorem row_cells {w : World} {B T : Nat} {xs : List Value} (h : Row w B T xs) : ∀ j u, xs[j]? = some u → w.cell? ((⟨B, 0, none⟩ : Addr).add j) = some u := by
  intro j u hu
  obtain ⟨hj, e⟩ := List.getElem?_eq_some_iff.1 hu
  rw [Addr.add_lit, Nat.zero_add, h.cell j hj, e]
theorem wLevel_lv_ne {s : Rls × List Wri} {i k : Nat} {x : Int} (h : k ≠ i) : lvAt (wLevel s i x).1 k = lvAt s.1 k := by
  simp only [lvAt, wLevel, List.getD_eq_getElem?_getD]
  rw [List.getElem?_set_ne (fun e => h e.symm)]
theorem wSupply_on_ne {s : Rls × List Wri} {i k : Nat} {b : Bool} (h : k ≠ i) : onAt (wSupply s i b).1 k = onAt s.1 k := by
  simp only [onAt, wSupply, List.getD_eq_getElem?_getD]
  rw [List.getElem?_set_ne (fun e => h e.symm)]
theorem downTo_keep (tg : Rls) (n : Nat) (s : Rls × List Wri) (m k : Nat) (h : k + m < n) : onAt (downTo tg n s m).1 k = onAt s.1 k ∧ lvAt (downTo tg n s m).1 k = lvAt s.1 k := by
  induction m with
  | zero => exact ⟨rfl, rfl⟩
  | succ m ih =>
    obtain ⟨i1, i2⟩ := ih (by omega)
    have hne : k ≠ n - 1 - m := by omega
    have e1 : ∀ (q : Rls × List Wri) (x : Int), onAt (wLevel q (n - 1 - m) x).1 k = onAt q.1 k := fun q x => rfl
    have e2 : ∀ (q : Rls × List Wri) (b : Bool), lvAt (wSupply q (n - 1 - m) b).1 k = lvAt q.1 k := fun q b => rfl
    simp only [downTo]
    rw [e1, wLevel_lv_ne hne]
    split
    · exact ⟨i1, i2⟩
    · rw [wSupply_on_ne hne, e2]
      exact ⟨i1, i2⟩
noncomputable def dnW (s tg : Rls) (i : Nat) : List Wri := (if onAt s i = true ∧ onAt tg i = false then [⟨3, i, 0⟩] else []) ++ (if lvAt s i = lvAt tg i then [] else [⟨2, i, lvAt tg i⟩])
theorem downTo_w (tg : Rls) (n : Nat) (s : Rls × List Wri) (m : Nat) (h : m < n) : (downTo tg n s (m + 1)).2 = (downTo tg n s m).2 ++ dnW s.1 tg (n - 1 - m) := by
  obtain ⟨k1, k2⟩ := downTo_keep tg n s m (n - 1 - m) (by omega)
  simp only [downTo, dnW]
  by_cases ht : onAt tg (n - 1 - m) = true
  · rw [if_pos ht, if_neg (fun q => by rw [ht] at q; exact absurd q.2 (by simp))]
    simp only [wLevel, k2, List.nil_append]
    split <;> simp
  · have ht' : onAt tg (n - 1 - m) = false := by simpa using ht
    rw [if_neg ht]
    have e2 : lvAt (wSupply (downTo tg n s m) (n - 1 - m) false).1 (n - 1 - m) = lvAt s.1 (n - 1 - m) := k2
    simp only [wLevel, e2]
    simp only [wSupply, k1, ht']
    cases onAt s.1 (n - 1 - m) <;> (simp only [reduceCtorEq, if_true, if_false, and_true, List.nil_append, Bool.false_eq_true]; split <;> simp)
end Go.Proofs.Ytoenkcojfogmmaa

/- Contracts of supply.Draws and supply.Rails. -/
import Derived.Test.YtoenkcojfogmmaaPrgC
set_option linter.unusedVariables false
set_option linter.unusedSimpArgs false
namespace Go.Proofs.Ytoenkcojfogmmaa
open Go.RowKit
open Classical

set_option maxHeartbeats 1000000 in
theorem draws1_any (l : List Sup) (d : List Drw) (q : Nat) (ao : Option Addr) (cap : Nat) (w : World) (hc : w.cell? ⟨q, 0, none⟩ = some (.slice ao l.length cap)) (hf : Fit l.length) :
    PredOn VDrw 66 #[.pointer (some ⟨q, 0, none⟩)] d (fun x => ¬ DrwOk l x) w := by
  rintro W v k hk hg rfl
  unfold Fit at hf
  have hc' := cell_gr hg hc
  have hh := has_of_cell hc'
  clear hc hg
  show Calls Try.prog 66 #[_, _] W _
  generalize d[k] = x
  by_cases hx : DrwOk l x
  · have HX := Lib.hid hx
    unfold DrwOk at hx
    go_enter Try.func66, Try.ntmps66
    go_wp2_with (go_at_call 67; refine (within_any _ _ _ _).mono ?_; rintro e w' ⟨rfl, rfl⟩)
    all_goals first
      | (go_ret; exact ⟨ret_bool (dec_false (fun q => q HX.out)), (Gr.refl _).alloc _⟩)
      | skip
  · have HX := Lib.hid hx
    unfold DrwOk at hx
    go_enter Try.func66, Try.ntmps66
    go_wp2_with (go_at_call 67; refine (within_any _ _ _ _).mono ?_; rintro e w' ⟨rfl, rfl⟩)
    all_goals first
      | (go_ret; exact ⟨ret_bool (dec_true HX.out), (Gr.refl _).alloc _⟩)
      | (go_ret; exact ⟨ret_bool (Eq.trans (b := true) (by simp; omega) (dec_true HX.out)), (Gr.refl _).alloc _⟩)

theorem not_any {l : List Sup} {d : List Drw} (h : ¬ AnyOf (fun x => ¬ DrwOk l x) d) (k : Nat) (hk : k < d.length) : DrwOk l d[k] := by
  rcases Classical.em (DrwOk l d[k]) with q | q
  · exact q
  · exact absurd ⟨k, hk, q⟩ h

set_option maxHeartbeats 1000000 in
theorem draws_any (l : List Sup) (d : List Drw) (ao a1 : Option Addr) (cap c1 : Nat) (w : World) (h : SlOf 5 RSup w ao l) (hf : Fit l.length) (h1 : SlOf 4 RDrw w a1 d) (f1 : Fit d.length) :
    Calls Try.prog 38 #[.slice ao l.length cap, .slice a1 d.length c1] w (Grows w (.bool (decide (DrwsOk l d)))) := by
  have H := Lib.hid h
  have H1 := Lib.hid h1
  have HF := Lib.hid hf
  have HF1 := Lib.hid f1
  unfold Fit at hf f1
  clear h h1
  go_enter Try.func38, Try.ntmps38
  go_wp2_with fail
  refine (check_any l ao cap _ (sups_gr H.out ((Gr.refl _).alloc _)) HF.out).mono ?_
  rintro e w' ⟨rfl, O, dd, rfl⟩
  by_cases hc : chk l = 0
  · rw [hc]
    have HC := Lib.hid hc
    clear hc
    by_cases hl : d.length ≤ 32
    · go_wp2_with fail
      refine (containsDrw_any w.heap.size d a1 c1 _ _ (drws_gr H1.out (((Gr.refl _).alloc _).xt _ _)) HF1.out (draws1_any l d w.heap.size ao cap _ (by simp [go_sem]) HF.out)).mono ?_
      rintro e w' ⟨rfl, O2, dd2, rfl⟩
      by_cases ha : AnyOf (fun x => ¬ DrwOk l x) d
      · rw [decide_eq_true ha]
        have HA := Lib.hid ha
        clear ha
        go_wp2_with fail
        go_ret
        refine ⟨ret_bool (dec_false ?_), by repeat (first | with_reducible exact Gr.refl _ | with_reducible refine Gr.alloc _ ?_ | with_reducible refine Gr.xt _ _ ?_)⟩
        obtain ⟨k, hk, q⟩ := HA.out
        exact fun hd => q (hd.2.2 k hk)
      · rw [decide_eq_false ha]
        have HA := Lib.hid ha
        clear ha
        go_wp2_with fail
        go_ret
        exact ⟨ret_bool (dec_true ⟨HC.out, hl, not_any HA.out⟩), by repeat (first | with_reducible exact Gr.refl _ | with_reducible refine Gr.alloc _ ?_ | with_reducible refine Gr.xt _ _ ?_)⟩
    · go_wp2_with fail
      go_ret
      exact ⟨ret_bool (dec_false (fun hd => by have := hd.2.1; omega)), by repeat (first | with_reducible exact Gr.refl _ | with_reducible refine Gr.alloc _ ?_ | with_reducible refine Gr.xt _ _ ?_)⟩
  · have hcb : (chk l == 0) = false := by simpa using hc
    have HC := Lib.hid hc
    clear hc
    go_wp2_with fail
    go_ret
    exact ⟨ret_bool (dec_false (fun hd => HC.out hd.1)), by repeat (first | with_reducible exact Gr.refl _ | with_reducible refine Gr.alloc _ ?_ | with_reducible refine Gr.xt _ _ ?_)⟩

set_option maxHeartbeats 1000000 in
theorem rails_any (l : List Sup) (r : Rls) (ao a1 a2 : Option Addr) (cap c1 c2 : Nat) (w : World) (h : SlOf 5 RSup w ao l) (hf : Fit l.length) (h1 : SlOf 1 RB w a1 r.on) (h2 : SlOf 1 RI w a2 r.level) (f1 : Fit r.on.length) (f2 : Fit r.level.length) :
    Calls Try.prog 64 #[.slice ao l.length cap, .agg #[.slice a1 r.on.length c1, .slice a2 r.level.length c2]] w (Grows w (.bool (decide (RlsOk l r)))) := by
  have H := Lib.hid h
  have H2 := Lib.hid h2
  have HF := Lib.hid hf
  unfold Fit at hf f1 f2
  clear h h1 h2
  go_enter Try.func64, Try.ntmps64
  go_wp2_with fail
  refine (check_any l ao cap _ (sups_gr H.out ((Gr.refl _).alloc _)) HF.out).mono ?_
  rintro e w' ⟨rfl, O, dd, rfl⟩
  by_cases hc : chk l = 0
  · rw [hc]
    have HC := Lib.hid hc
    clear hc
    by_cases e1 : r.on.length = l.length
    · by_cases e2 : r.level.length = l.length
      · have E2 := Lib.hid e2
        have E1 := Lib.hid e1
        rw [e1, e2]
        go_wp2_with fail
        go_loopw [29] (fun i wr => ∃ k : Nat, k ≤ l.length ∧ i = .int .i64 k ∧ (∀ j (hj : j < k) (h : j < l.length) (h' : j < r.level.length), 0 ≤ r.level[j] ∧ r.level[j] ≤ (l[j].levels.length : Int) - 1) ∧ Gr w wr) (fun i _ => l.length - (intOf i).toNat)
        case atStart => exact ⟨0, Nat.zero_le _, rfl, fun j h => absurd h (by omega), by repeat (first | with_reducible exact Gr.refl _ | with_reducible refine Gr.alloc _ ?_ | with_reducible refine Gr.xt _ _ ?_)⟩
        case round =>
          obtain ⟨k, hk, rfl, hall, hg⟩ := hrel
          have HA := Lib.hid hall
          have HG := Lib.hid hg
          clear hall hg
          by_cases hlt : k < l.length
          · have hlt' : k < r.level.length := by omega
            obtain ⟨b, o, rfl, _, ⟨al, cl, q1, q1l, q1f, cL⟩, _⟩ := sups_gr H.out HG.out k hlt
            obtain ⟨bl, ol, rfl, q2, q2w⟩ := (H2.out.giI HG.out).one k hlt'
            unfold Fit at q1f
            clear cL
            by_cases hx : 0 ≤ r.level[k] ∧ r.level[k] ≤ (l[k].levels.length : Int) - 1
            · have HX := Lib.hid hx
              go_wp2_with (go_at_call 67; refine (within_any _ _ _ _).mono ?_; rintro e w' ⟨rfl, rfl⟩)
              go_roundw
              case rel =>
                refine ⟨k + 1, by omega, by go_num, fun j hj hjl hj' => ?_, HG.out⟩
                by_cases e : j = k
                · subst e; exact HX.out
                · exact HA.out j (by omega) hjl hj'
              case measure => simp [intOf]; omega
            · have HX := Lib.hid hx
              go_wp2_with (go_at_call 67; refine (within_any _ _ _ _).mono ?_; rintro e w' ⟨rfl, rfl⟩)
              all_goals first
                | (go_ret; exact ⟨ret_bool (dec_false (fun hd => HX.out (hd.2.2.2 k hlt hlt'))), HG.out⟩)
                | (exfalso; (try simp only [Bool.not_eq_eq_eq_not, Bool.not_false, Bool.not_true, decide_eq_true_eq, decide_eq_false_iff_not, Bool.and_eq_true, Bool.and_eq_false_iff] at *); omega)
          · go_wp2_with fail
            go_ret
            exact ⟨ret_bool (dec_true ⟨HC.out, E1.out, E2.out, fun j hj hj' => HA.out j (by omega) hj hj'⟩), HG.out⟩
      · have e2b : ((r.level.length : Int) != l.length) = true := by simp; omega
        go_wp2_with fail
        go_ret
        exact ⟨ret_bool (dec_false (fun hd => e2 hd.2.2.1)), by repeat (first | with_reducible exact Gr.refl _ | with_reducible refine Gr.alloc _ ?_ | with_reducible refine Gr.xt _ _ ?_)⟩
    · have e2b : ((r.on.length : Int) != l.length) = true := by simp; omega
      go_wp2_with fail
      go_ret
      exact ⟨ret_bool (dec_false (fun hd => e1 hd.2.1)), by repeat (first | with_reducible exact Gr.refl _ | with_reducible refine Gr.alloc _ ?_ | with_reducible refine Gr.xt _ _ ?_)⟩
  · have hcb : (chk l != 0) = true := by simpa using hc
    have HC := Lib.hid hc
    clear hc
    go_wp2_with fail
    go_ret
    exact ⟨ret_bool (dec_false (fun hd => HC.out hd.1)), by repeat (first | with_reducible exact Gr.refl _ | with_reducible refine Gr.alloc _ ?_ | with_reducible refine Gr.xt _ _ ?_)⟩
end Go.Proofs.Ytoenkcojfogmmaa

/- ramp.begin. -/
import Derived.Test.YtoenkcojfogmmaaRmpA
set_option linter.unusedVariables false
set_option linter.unusedSimpArgs false
namespace Go.Proofs.Ytoenkcojfogmmaa
open Go.RowKit
open Classical
theorem rlss_gr {w w' : World} {ao : Option Addr} {xs : List Rls} (h : SlOf 2 RRls w ao xs) (hg : Gr w w') : SlOf 2 RRls w' ao xs := h.gr RRls.mono hg
set_option maxHeartbeats 1000000 in
theorem indexRls_any (q0 : Nat) (l : List Rls) (ao : Option Addr) (cap : Nat) (p : Rls → Prop) (w : World) (h : SlOf 2 RRls w ao l) (hf : Fit l.length) (hp : PredOn VRls 63 #[.pointer (some ⟨q0, 0, none⟩)] l p w) :
    Calls Try.prog 52 #[.slice ao l.length cap, .func (.func 63) #[] #[.pointer (some ⟨q0, 0, none⟩)]] w (GivesFirst p l w) := by
  unfold Fit at hf
  have H := Lib.hid h
  have HP := Lib.hid hp
  clear h hp
  go_enter Try.func52, Try.ntmps52
  go_wp2
  go_loopw [8] (fun i wr => ∃ k : Nat, k ≤ l.length ∧ i = .int .i64 k ∧ (∀ j (hj : j < k) (hjl : j < l.length), ¬ p l[j]) ∧ Gr w wr) (fun i _ => l.length - (intOf i).toNat)
  case atStart => exact ⟨0, Nat.zero_le _, rfl, fun j h => absurd h (by omega), Gr.refl _⟩
  case round =>
    obtain ⟨k, hk, rfl, hall, hg⟩ := hrel
    have HA := Lib.hid hall
    have HG := Lib.hid hg
    clear hall hg
    by_cases hlt : k < l.length
    · obtain ⟨b, o, rfl, ⟨a1, k1, c1, c1l, c1f, s1⟩, ⟨a2, k2, c2, c2l, c2f, s2⟩⟩ := rlss_gr H.out HG.out k hlt
      have hcall := HP.out wr (.agg #[.slice a1 l[k].on.length k1, .slice a2 l[k].level.length k2]) k hlt HG.out ⟨a1, a2, k1, k2, rfl, s1, s2, c1l, c1f, c2l, c2f⟩
      clear s1 s2 c1f c2f
      by_cases hq : p l[k]
      · rw [decide_eq_true hq] at hcall
        have Q := Lib.hid hq
        clear hq
        go_wp2_with fail
        refine hcall.mono ?_
        rintro e w' ⟨rfl, O, d, rfl⟩
        go_wp2_with fail
        go_ret
        exact ⟨_, rfl, .inr ⟨k, hlt, rfl, Q.out, fun j hj => HA.out j hj (by omega)⟩, HG.out.xt _ _⟩
      · rw [decide_eq_false hq] at hcall
        have Q := Lib.hid hq
        clear hq
        go_wp2_with fail
        refine hcall.mono ?_
        rintro e w' ⟨rfl, O, d, rfl⟩
        go_wp2_with fail
        go_roundw
        case rel =>
          refine ⟨k + 1, by omega, by go_num, fun j hj hjl => ?_, HG.out.xt _ _⟩
          by_cases e : j = k
          · subst e; exact Q.out
          · exact HA.out j (by omega) hjl
        case measure => simp [intOf]; omega
    · go_wp2
      go_ret
      exact ⟨_, rfl, .inl ⟨rfl, fun j hj => HA.out j (by omega) hj⟩, HG.out⟩
theorem containsRls_any (q0 : Nat) (l : List Rls) (ao : Option Addr) (cap : Nat) (p : Rls → Prop) (w : World) (h : SlOf 2 RRls w ao l) (hf : Fit l.length) (hp : PredOn VRls 63 #[.pointer (some ⟨q0, 0, none⟩)] l p w) :
    Calls Try.prog 62 #[.slice ao l.length cap, .func (.func 63) #[] #[.pointer (some ⟨q0, 0, none⟩)]] w (Grows w (.bool (decide (AnyOf p l)))) := by
  have H := Lib.hid h
  have HP := Lib.hid hp
  have HF := Lib.hid hf
  clear h hp hf
  go_enter Try.func62, Try.ntmps62
  go_wp2_with fail
  refine (indexRls_any q0 l ao cap p _ H.out HF.out HP.out).mono ?_
  rintro e w' ⟨x, rfl, hx, O, d, rfl⟩
  have X := Lib.hid hx
  clear hx
  go_wp2_with fail
  go_ret
  exact ⟨ret_bool X.out.any, (Gr.refl _).xt _ _⟩

set_option maxHeartbeats 1000000 in
theorem begin1_any (l : List Sup) (rs : List Rls) (q : Nat) (ao : Option Addr) (cap : Nat) (w : World) (hc : w.cell? ⟨q, 0, none⟩ = some (.slice ao l.length cap)) (h : SlOf 5 RSup w ao l) (hf : Fit l.length) :
    PredOn VRls 63 #[.pointer (some ⟨q, 0, none⟩)] rs (fun r => ¬ RlsOk l r) w := by
  rintro W v k hk hg ⟨a1, a2, c1, c2, rfl, s1, s2, _, f1, _, f2⟩
  have hc' := cell_gr hg hc
  have hh := has_of_cell hc'
  have H := Lib.hid (sups_gr h hg)
  have H1 := Lib.hid s1
  have H2 := Lib.hid s2
  clear hc hg h s1 s2
  show Calls Try.prog 63 #[_, _] W _
  generalize rs[k] = r at *
  go_enter Try.func63, Try.ntmps63
  go_wp2_with fail
  refine (rails_any l r ao a1 a2 cap c1 c2 _ (sups_gr H.out (by repeat (first | with_reducible exact Gr.refl _ | with_reducible refine Gr.alloc _ ?_ | with_reducible refine Gr.xt _ _ ?_ | with_reducible refine Gr.drew ?_))) hf (H1.out.giB (by repeat (first | with_reducible exact Gr.refl _ | with_reducible refine Gr.alloc _ ?_ | with_reducible refine Gr.xt _ _ ?_ | with_reducible refine Gr.drew ?_))) (H2.out.giI (by repeat (first | with_reducible exact Gr.refl _ | with_reducible refine Gr.alloc _ ?_ | with_reducible refine Gr.xt _ _ ?_ | with_reducible refine Gr.drew ?_))) f1 f2).mono ?_
  rintro e w' ⟨rfl, O, dd, rfl⟩
  go_wp2_with fail
  go_ret
  exact ⟨ret_bool (by by_cases q : RlsOk l r <;> simp [q]), by repeat (first | with_reducible exact Gr.refl _ | with_reducible refine Gr.alloc _ ?_ | with_reducible refine Gr.xt _ _ ?_ | with_reducible refine Gr.drew ?_)⟩
/-- The error of supplies and rails. -/
noncomputable def begR (l : List Sup) (rs : List Rls) : Int := if chk l = 0 then (if AnyOf (fun r => ¬ RlsOk l r) rs then 1 else 0) else chk l
theorem begR_wide (l : List Sup) (rs : List Rls) : 0 ≤ begR l rs ∧ begR l rs ≤ 3 := by
  have := chk_wide l
  unfold begR; split <;> (try split) <;> omega
theorem begR_zero {l : List Sup} {rs : List Rls} (h : begR l rs = 0) : chk l = 0 ∧ ∀ r ∈ rs, RlsOk l r := by
  unfold begR at h
  split at h
  · rename_i hc
    refine ⟨hc, fun r hr => Classical.byContradiction fun q => ?_⟩
    split at h
    · omega
    · rename_i ha
      obtain ⟨k, hk, e⟩ := List.getElem_of_mem hr
      exact ha ⟨k, hk, e ▸ q⟩
  · rename_i hc; exact absurd h hc
theorem begR_of {l : List Sup} {rs : List Rls} (hc : chk l = 0) (h : ∀ r ∈ rs, RlsOk l r) : begR l rs = 0 := by
  unfold begR
  rw [if_pos hc, if_neg]
  rintro ⟨k, hk, q⟩
  exact q (h _ (List.getElem_mem hk))
set_option maxHeartbeats 1000000 in
theorem begin_any (l : List Sup) (rs : List Rls) (ao a1 : Option Addr) (cap c1 : Nat) (w : World) (h : SlOf 5 RSup w ao l) (hf : Fit l.length) (h1 : SlOf 2 RRls w a1 rs) (f1 : Fit rs.length) :
    Calls Try.prog 37 #[.slice ao l.length cap, .slice a1 rs.length c1] w (Grows w (.int .i64 (begR l rs))) := by
  have H := Lib.hid h
  have H1 := Lib.hid h1
  have HF := Lib.hid hf
  have HF1 := Lib.hid f1
  unfold Fit at hf f1
  clear h h1
  go_enter Try.func37, Try.ntmps37
  go_wp2_with fail
  refine (check_any l ao cap _ (sups_gr H.out ((Gr.refl _).alloc _)) HF.out).mono ?_
  rintro e w' ⟨rfl, O, dd, rfl⟩
  by_cases hc : chk l = 0
  · rw [hc]
    have HC := Lib.hid hc
    clear hc
    go_wp2_with fail
    refine (containsRls_any w.heap.size rs a1 c1 _ _ (rlss_gr H1.out (by repeat (first | with_reducible exact Gr.refl _ | with_reducible refine Gr.alloc _ ?_ | with_reducible refine Gr.xt _ _ ?_ | with_reducible refine Gr.drew ?_))) HF1.out (begin1_any l rs w.heap.size ao cap _ (by simp [go_sem]) (sups_gr H.out (by repeat (first | with_reducible exact Gr.refl _ | with_reducible refine Gr.alloc _ ?_ | with_reducible refine Gr.xt _ _ ?_ | with_reducible refine Gr.drew ?_))) HF.out)).mono ?_
    rintro e w' ⟨rfl, O2, dd2, rfl⟩
    by_cases ha : AnyOf (fun r => ¬ RlsOk l r) rs
    · rw [decide_eq_true ha]
      have HA := Lib.hid ha
      clear ha
      go_wp2_with fail
      go_ret
      exact ⟨ret_int (by rw [begR, if_pos HC.out, if_pos HA.out]), by repeat (first | with_reducible exact Gr.refl _ | with_reducible refine Gr.alloc _ ?_ | with_reducible refine Gr.xt _ _ ?_ | with_reducible refine Gr.drew ?_)⟩
    · rw [decide_eq_false ha]
      have HA := Lib.hid ha
      clear ha
      go_wp2_with fail
      go_ret
      exact ⟨ret_int (by rw [begR, if_pos HC.out, if_neg HA.out]), by repeat (first | with_reducible exact Gr.refl _ | with_reducible refine Gr.alloc _ ?_ | with_reducible refine Gr.xt _ _ ?_ | with_reducible refine Gr.drew ?_)⟩
  · have hcb : (chk l != 0) = true := by simpa using hc
    have HC := Lib.hid hc
    clear hc
    go_wp2_with fail
    go_ret
    exact ⟨ret_int (by rw [begR, if_neg HC.out]), by repeat (first | with_reducible exact Gr.refl _ | with_reducible refine Gr.alloc _ ?_ | with_reducible refine Gr.xt _ _ ?_ | with_reducible refine Gr.drew ?_)⟩
end Go.Proofs.Ytoenkcojfogmmaa

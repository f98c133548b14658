/- slices.IndexFunc, ContainsFunc over draws for the function values of Draws and Meets; supply.Draws, Rails. Printed in part by wip/tools/idx.py. -/
import Derived.Test.YtoenkcojfogmmaaPrgB
set_option linter.unusedVariables false
set_option linter.unusedSimpArgs false
namespace Go.Proofs.Ytoenkcojfogmmaa
open Go.RowKit
open Classical

/-- A draw as a value. -/
def VDrw (w : World) (v : Value) (s : Drw) : Prop := v = .agg #[.int .i64 s.supply, .int .i64 s.low, .int .i64 s.high, .int .i64 s.load]
set_option maxHeartbeats 1000000 in
theorem indexDrw_any (q0 : Nat) (l : List Drw) (ao : Option Addr) (cap : Nat) (p : Drw → Prop) (w : World) (h : SlOf 4 RDrw w ao l) (hf : Fit l.length) (hp : PredOn VDrw 66 #[.pointer (some ⟨q0, 0, none⟩)] l p w) :
    Calls Try.prog 77 #[.slice ao l.length cap, .func (.func 66) #[] #[.pointer (some ⟨q0, 0, none⟩)]] w (GivesFirst p l w) := by
  unfold Fit at hf
  have H := Lib.hid h
  have HP := Lib.hid hp
  clear h hp
  go_enter Try.func77, Try.ntmps77
  go_wp2
  go_loopw [8] (fun i wr => ∃ k : Nat, k ≤ l.length ∧ i = .int .i64 k ∧ (∀ j (hj : j < k) (hjl : j < l.length), ¬ p l[j]) ∧ Gr w wr) (fun i _ => l.length - (intOf i).toNat)
  case atStart => exact ⟨0, Nat.zero_le _, rfl, fun j h => absurd h (by omega), Gr.refl _⟩
  case round =>
    obtain ⟨k, hk, rfl, hall, hg⟩ := hrel
    have HA := Lib.hid hall
    have HG := Lib.hid hg
    clear hall hg
    by_cases hlt : k < l.length
    · obtain ⟨b, o, rfl, ⟨c0, _⟩, ⟨c1, _⟩, ⟨c2, _⟩, ⟨c3, _⟩⟩ := drws_gr H.out HG.out k hlt
      have hcall := HP.out wr (.agg #[.int .i64 l[k].supply, .int .i64 l[k].low, .int .i64 l[k].high, .int .i64 l[k].load]) k hlt HG.out rfl
      by_cases hq : p l[k]
      · rw [decide_eq_true hq] at hcall
        have Q := Lib.hid hq
        clear hq
        go_wp2_with fail
        refine hcall.mono ?_
        rintro e w' ⟨rfl, O, d, rfl⟩
        go_wp2_with fail
        go_ret
        exact ⟨_, rfl, .inr ⟨k, hlt, rfl, Q.out, fun j hj => HA.out j hj (by omega)⟩, HG.out.xt _ _⟩
      · rw [decide_eq_false hq] at hcall
        have Q := Lib.hid hq
        clear hq
        go_wp2_with fail
        refine hcall.mono ?_
        rintro e w' ⟨rfl, O, d, rfl⟩
        go_wp2_with fail
        go_roundw
        case rel =>
          refine ⟨k + 1, by omega, by go_num, fun j hj hjl => ?_, HG.out.xt _ _⟩
          by_cases e : j = k
          · subst e; exact Q.out
          · exact HA.out j (by omega) hjl
        case measure => simp [intOf]; omega
    · go_wp2
      go_ret
      exact ⟨_, rfl, .inl ⟨rfl, fun j hj => HA.out j (by omega) hj⟩, HG.out⟩
theorem containsDrw_any (q0 : Nat) (l : List Drw) (ao : Option Addr) (cap : Nat) (p : Drw → Prop) (w : World) (h : SlOf 4 RDrw w ao l) (hf : Fit l.length) (hp : PredOn VDrw 66 #[.pointer (some ⟨q0, 0, none⟩)] l p w) :
    Calls Try.prog 65 #[.slice ao l.length cap, .func (.func 66) #[] #[.pointer (some ⟨q0, 0, none⟩)]] w (Grows w (.bool (decide (AnyOf p l)))) := by
  have H := Lib.hid h
  have HP := Lib.hid hp
  have HF := Lib.hid hf
  clear h hp hf
  go_enter Try.func65, Try.ntmps65
  go_wp2_with fail
  refine (indexDrw_any q0 l ao cap p _ H.out HF.out HP.out).mono ?_
  rintro e w' ⟨x, rfl, hx, O, d, rfl⟩
  have X := Lib.hid hx
  clear hx
  go_wp2_with fail
  go_ret
  exact ⟨ret_bool X.out.any, (Gr.refl _).xt _ _⟩

set_option maxHeartbeats 1000000 in
theorem indexMet_any (q0 q1 : Nat) (l : List Drw) (ao : Option Addr) (cap : Nat) (p : Drw → Prop) (w : World) (h : SlOf 4 RDrw w ao l) (hf : Fit l.length) (hp : PredOn VDrw 70 #[.pointer (some ⟨q0, 0, none⟩), .pointer (some ⟨q1, 0, none⟩)] l p w) :
    Calls Try.prog 77 #[.slice ao l.length cap, .func (.func 70) #[] #[.pointer (some ⟨q0, 0, none⟩), .pointer (some ⟨q1, 0, none⟩)]] w (GivesFirst p l w) := by
  unfold Fit at hf
  have H := Lib.hid h
  have HP := Lib.hid hp
  clear h hp
  go_enter Try.func77, Try.ntmps77
  go_wp2
  go_loopw [8] (fun i wr => ∃ k : Nat, k ≤ l.length ∧ i = .int .i64 k ∧ (∀ j (hj : j < k) (hjl : j < l.length), ¬ p l[j]) ∧ Gr w wr) (fun i _ => l.length - (intOf i).toNat)
  case atStart => exact ⟨0, Nat.zero_le _, rfl, fun j h => absurd h (by omega), Gr.refl _⟩
  case round =>
    obtain ⟨k, hk, rfl, hall, hg⟩ := hrel
    have HA := Lib.hid hall
    have HG := Lib.hid hg
    clear hall hg
    by_cases hlt : k < l.length
    · obtain ⟨b, o, rfl, ⟨c0, _⟩, ⟨c1, _⟩, ⟨c2, _⟩, ⟨c3, _⟩⟩ := drws_gr H.out HG.out k hlt
      have hcall := HP.out wr (.agg #[.int .i64 l[k].supply, .int .i64 l[k].low, .int .i64 l[k].high, .int .i64 l[k].load]) k hlt HG.out rfl
      by_cases hq : p l[k]
      · rw [decide_eq_true hq] at hcall
        have Q := Lib.hid hq
        clear hq
        go_wp2_with fail
        refine hcall.mono ?_
        rintro e w' ⟨rfl, O, d, rfl⟩
        go_wp2_with fail
        go_ret
        exact ⟨_, rfl, .inr ⟨k, hlt, rfl, Q.out, fun j hj => HA.out j hj (by omega)⟩, HG.out.xt _ _⟩
      · rw [decide_eq_false hq] at hcall
        have Q := Lib.hid hq
        clear hq
        go_wp2_with fail
        refine hcall.mono ?_
        rintro e w' ⟨rfl, O, d, rfl⟩
        go_wp2_with fail
        go_roundw
        case rel =>
          refine ⟨k + 1, by omega, by go_num, fun j hj hjl => ?_, HG.out.xt _ _⟩
          by_cases e : j = k
          · subst e; exact Q.out
          · exact HA.out j (by omega) hjl
        case measure => simp [intOf]; omega
    · go_wp2
      go_ret
      exact ⟨_, rfl, .inl ⟨rfl, fun j hj => HA.out j (by omega) hj⟩, HG.out⟩
theorem containsMet_any (q0 q1 : Nat) (l : List Drw) (ao : Option Addr) (cap : Nat) (p : Drw → Prop) (w : World) (h : SlOf 4 RDrw w ao l) (hf : Fit l.length) (hp : PredOn VDrw 70 #[.pointer (some ⟨q0, 0, none⟩), .pointer (some ⟨q1, 0, none⟩)] l p w) :
    Calls Try.prog 65 #[.slice ao l.length cap, .func (.func 70) #[] #[.pointer (some ⟨q0, 0, none⟩), .pointer (some ⟨q1, 0, none⟩)]] w (Grows w (.bool (decide (AnyOf p l)))) := by
  have H := Lib.hid h
  have HP := Lib.hid hp
  have HF := Lib.hid hf
  clear h hp hf
  go_enter Try.func65, Try.ntmps65
  go_wp2_with fail
  refine (indexMet_any q0 q1 l ao cap p _ H.out HF.out HP.out).mono ?_
  rintro e w' ⟨x, rfl, hx, O, d, rfl⟩
  have X := Lib.hid hx
  clear hx
  go_wp2_with fail
  go_ret
  exact ⟨ret_bool X.out.any, (Gr.refl _).xt _ _⟩

end Go.Proofs.Ytoenkcojfogmmaa

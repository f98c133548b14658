/- Comparison of lists of numbers. -/
import Derived.Test.YthpgoldahffbcaaRox
set_option linter.unusedVariables false
set_option linter.unusedSimpArgs false
namespace Go.Proofs.Ythpgoldahffbcaa
open Go.RowKit
theorem isame_iff {a b : List Int} (h : a.length = b.length) : (∀ k (h1 : k < a.length) (h2 : k < b.length), a[k] = b[k]) ↔ a = b :=
  ⟨fun q => List.ext_getElem h fun k h1 h2 => q k h1 h2, fun q => by subst q; exact fun _ _ _ => rfl⟩
set_option maxHeartbeats 2000000 in
theorem ints_any (a b : List Int) (ao bo : Option Addr) (ca cb : Nat) (w : World) (ha : SlOf 1 RI w ao a) (hb : SlOf 1 RI w bo b) (fa : Fit a.length) (fb : Fit b.length) :
    Calls Try.prog 24 #[.slice ao a.length ca, .slice bo b.length cb] w (Grows w (.bool (decide (a = b)))) := by
  unfold Fit at fa fb
  have HA := Lib.hid ha
  have HB := Lib.hid hb
  clear ha hb
  by_cases hl : a.length = b.length
  · have LE := Lib.hid hl
    have q1 : ((a.length : Int) != (b.length : Int)) = false := by simp; omega
    have q2 : (a.length != b.length) = false := by simp; omega
    have le1 : a.length ≤ b.length := by omega
    have le2 : b.length ≤ a.length := by omega
    clear hl
    go_enter Try.func24, Try.ntmps24
    go_wp2_with fail
    go_loopw [5] (fun i wr => ∃ k : Nat, k ≤ a.length ∧ i = .int .i64 k ∧ (∀ j (h1 : j < a.length) (h2 : j < b.length), j < k → a[j] = b[j]) ∧ Gr w wr) (fun i _ => a.length - (intOf i).toNat)
    case atStart => exact ⟨0, Nat.zero_le _, rfl, fun j _ _ h => absurd h (by omega), Gr.refl _⟩
    case round =>
      obtain ⟨k, hk, rfl, hall, hg⟩ := hrel
      have AL := Lib.hid hall
      have HG := Lib.hid hg
      clear hall hg
      by_cases hlt : k < a.length
      · obtain ⟨b1, o1, rfl, c0, -⟩ := (HA.out.giI HG.out).one k hlt
        obtain ⟨b2, o2, rfl, d0, -⟩ := (HB.out.giI HG.out).one k (by omega)
        have ch := has_of_cell c0
        have dh := has_of_cell d0
        have k0 : (0 : Int) ≤ k := by omega
        have k1 : (k : Int) < a.length := by omega
        have k2 : (k : Int) < b.length := by omega
        obtain ⟨y, hy⟩ : ∃ y, Hid (y = a[k]) := ⟨_, Lib.hid rfl⟩
        obtain ⟨z, hz⟩ : ∃ z, Hid (z = b[k]'(by omega)) := ⟨_, Lib.hid rfl⟩
        rw [← hy.out] at c0
        rw [← hz.out] at d0
        by_cases he : y = z
        · have hb : (y != z) = false := by simpa using he
          have HE : Hid (a[k] = b[k]'(by omega)) := Lib.hid (by rw [← hy.out, ← hz.out]; exact he)
          clear he
          go_wp2_with fail
          refine wp_region_grows (by kernel_rfl) (by kernel_rfl) ?_
          repeat (go_big_quiet_step (fail))
          refine wpQuiet_nil ?_
          rintro _ ⟨⟨O5, d5⟩, rfl⟩
          go_wp2_with fail
          go_roundw
          case rel =>
            refine ⟨k + 1, by omega, by go_num, fun j h1 h2 hj => ?_, HG.out.trans (by repeat (first | with_reducible exact Gr.refl _ | with_reducible refine Gr.alloc _ ?_ | with_reducible refine Gr.xt _ _ ?_ | with_reducible refine Gr.drew ?_))⟩
            by_cases e : j = k
            · subst e; exact HE.out
            · exact AL.out j h1 h2 (by omega)
          case measure => simp [intOf]; omega
        · have hb : (y != z) = true := by simpa using he
          have NE : Hid (a ≠ b) := Lib.hid fun q => he (by rw [hy.out, hz.out]; subst q; rfl)
          clear he
          go_wp2_with fail
          refine wp_region_grows (by kernel_rfl) (by kernel_rfl) ?_
          repeat (go_big_quiet_step (fail))
          refine wpQuiet_nil ?_
          rintro _ ⟨⟨O5, d5⟩, rfl⟩
          go_wp2_with fail
          go_ret
          rw [decide_eq_false NE.out]
          exact ⟨rfl, HG.out.trans (by repeat (first | with_reducible exact Gr.refl _ | with_reducible refine Gr.alloc _ ?_ | with_reducible refine Gr.xt _ _ ?_ | with_reducible refine Gr.drew ?_))⟩
      · go_wp2_with fail
        go_ret
        rw [decide_eq_true ((isame_iff LE.out).1 fun k h1 h2 => AL.out k h1 h2 (by omega))]
        exact ⟨rfl, HG.out⟩
  · have q1 : ((a.length : Int) != (b.length : Int)) = true := by simp; omega
    have q2 : (a.length != b.length) = true := by simp; omega
    have NE : Hid (a ≠ b) := Lib.hid fun q => hl (by rw [q])
    clear hl
    go_enter Try.func24, Try.ntmps24
    go_wp2_with fail
    go_ret
    rw [decide_eq_false NE.out]
    exact ⟨rfl, Gr.refl _⟩
end Go.Proofs.Ythpgoldahffbcaa

/- Contracts of the reference's small functions on lists: ints, bools, in. -/
import Derived.Test.YtoenkcojfogmmaaMem
set_option linter.unusedVariables false
set_option linter.unusedSimpArgs false
namespace Go.Proofs.Ytoenkcojfogmmaa
open Go.RowKit

theorem ne_at {α : Type} {xs ys : List α} (k : Nat) (hx : k < xs.length) (hy : k < ys.length) (h : xs[k] ≠ ys[k]) : xs ≠ ys := by
  rintro rfl; exact h rfl
theorem eq_all {α : Type} {xs ys : List α} (hl : xs.length = ys.length) (h : ∀ j (hx : j < xs.length) (hy : j < ys.length), xs[j] = ys[j]) : xs = ys :=
  List.ext_getElem hl fun i h1 h2 => h i h1 h2

set_option maxHeartbeats 400000 in
theorem ints_any (xs ys : List Int) (ax ay : Option Addr) (cx cy : Nat) (w : World) (hx : SlOf 1 RI w ax xs) (hy : SlOf 1 RI w ay ys) (fx : Fit xs.length) (_fy : Fit ys.length) :
    Calls Try.prog 49 #[.slice ax xs.length cx, .slice ay ys.length cy] w (Grows w (.bool (decide (xs = ys)))) := by
  unfold Fit at fx
  have HX := Lib.hid hx
  have HY := Lib.hid hy
  clear hx hy
  by_cases hl : xs.length = ys.length
  · have hlb : ((xs.length : Int) != (ys.length : Int)) = false := by simp [hl]
    have HL := Lib.hid hl
    clear hl
    go_enter Try.func49, Try.ntmps49
    go_wp2
    go_loopw [13] (fun i wr => ∃ k : Nat, k ≤ xs.length ∧ i = .int .i64 k ∧ (∀ j (h1 : j < xs.length) (h2 : j < ys.length), j < k → xs[j] = ys[j]) ∧ ∃ n, wr = w.drewN n) (fun i _ => xs.length - (intOf i).toNat)
    case atStart => exact ⟨0, Nat.zero_le _, rfl, fun j _ _ h => absurd h (by omega), 0, rfl⟩
    case round =>
      obtain ⟨k, hk, rfl, hall, n, rfl⟩ := hrel
      have HA := Lib.hid hall
      clear hall
      by_cases hlt : k < xs.length
      · have hlt2 : k < ys.length := by have := HL.out; omega
        obtain ⟨bx, ox, rfl, ⟨c1, _⟩⟩ := HX.out.one k hlt
        obtain ⟨by', oy, rfl, ⟨c2, _⟩⟩ := HY.out.one k hlt2
        by_cases he : xs[k] = ys[k]
        · have heb : (xs[k] != ys[k]) = false := by simp [he]
          have HE := Lib.hid he
          clear he
          go_wp2
          go_quiet (fail)
          go_wp2
          go_roundw
          case rel =>
            refine ⟨k + 1, by omega, by go_num, fun j h1 h2 hj => ?_, n + nq, by simp⟩
            by_cases e : j = k
            · subst e; exact HE.out
            · exact HA.out j h1 h2 (by omega)
          case measure => simp [intOf]; omega
        · have heb : (xs[k] != ys[k]) = true := by simp [he]
          have HE := Lib.hid he
          clear he
          go_wp2
          go_quiet (fail)
          go_wp2
          go_ret
          exact ⟨ret_bool (by simp [ne_at k hlt hlt2 HE.out]), by repeat (first | with_reducible exact Gr.refl _ | with_reducible refine Gr.drewN _ ?_)⟩
      · go_wp2
        go_ret
        exact ⟨ret_bool (by simp [eq_all HL.out (fun j h1 h2 => HA.out j h1 h2 (by omega))]), by repeat (first | with_reducible exact Gr.refl _ | with_reducible refine Gr.drewN _ ?_)⟩
  · have hlb : ((xs.length : Int) != (ys.length : Int)) = true := by simp; omega
    go_enter Try.func49, Try.ntmps49
    go_wp2
    go_ret
    exact ⟨ret_bool (by simp; intro h; exact hl (by rw [h])), Gr.refl _⟩
end Go.Proofs.Ytoenkcojfogmmaa

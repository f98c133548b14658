/- Contracts of the reference's functions begin, level and Least, the last as far as the statements need it. -/
import Derived.Test.YtoenkcojfogmmaaSupM
set_option linter.unusedVariables false
set_option linter.unusedSimpArgs false
namespace Go.Proofs.Ytoenkcojfogmmaa
open Go.RowKit
open Classical

noncomputable def beg (l : List Sup) (d : List Drw) : Int := if chk l = 0 then (if DrwsOk l d then 0 else 1) else chk l
set_option maxHeartbeats 400000 in
theorem refBegin_any (l : List Sup) (d : List Drw) (ao a1 : Option Addr) (cap c1 : Nat) (w : World) (h : SlOf 5 RSup w ao l) (hf : Fit l.length) (h1 : SlOf 4 RDrw w a1 d) (f1 : Fit d.length) :
    Calls Try.prog 57 #[.slice ao l.length cap, .slice a1 d.length c1] w (Grows w (.int .i64 (beg l d))) := by
  have H := Lib.hid h
  have H1 := Lib.hid h1
  have cw := chk_wide l
  clear h h1
  by_cases g1 : chk l = 0
  · by_cases g2 : DrwsOk l d
    all_goals
      have e : beg l d = (if DrwsOk l d then 0 else 1) := by simp [beg, g1]
      rw [e]
      first | (have g2b : decide (DrwsOk l d) = true := by simp [g2]) | (have g2b : decide (DrwsOk l d) = false := by simp [g2])
      first | rw [if_pos g2] | rw [if_neg g2]
      clear g2 e
      go_enter Try.func57, Try.ntmps57
      go_wp2_with fail
      refine (refCheck_any l ao cap _ H.out hf).mono ?_
      rw [g1]
      rintro e w' ⟨rfl, O1, d1, rfl⟩
      go_wp2_with fail
      refine (refDraws_any l d ao a1 cap c1 _ (sups_gr H.out ((Gr.refl _).xt _ _)) hf (drws_gr H1.out ((Gr.refl _).xt _ _)) f1).mono ?_
      rw [g2b]
      rintro e w' ⟨rfl, O2, d2, rfl⟩
      go_wp2_with fail
      go_ret
      exact ⟨rfl, (Gr.refl _).xt _ _⟩
  · have e : beg l d = chk l := by simp [beg, g1]
    rw [e]
    have g1b : (chk l != 0) = true := by simp [g1]
    clear g1 e
    go_enter Try.func57, Try.ntmps57
    go_wp2_with fail
    refine (refCheck_any l ao cap _ H.out hf).mono ?_
    rintro e w' ⟨rfl, O1, d1, rfl⟩
    go_wp2_with fail
    go_ret
    exact ⟨rfl, (Gr.refl _).xt _ _⟩

/-- The least level that is at least v, -1 for none. -/
def lvF (xs : List Int) (v : Int) : Nat → Nat → Int
  | _, 0 => -1
  | n, k + 1 => if v ≤ xs.getD n 0 then n else lvF xs v (n + 1) k
def lvI (xs : List Int) (v : Int) : Int := lvF xs v 0 xs.length
theorem lvF_wide (xs : List Int) (v : Int) (k : Nat) : ∀ n, -1 ≤ lvF xs v n k ∧ lvF xs v n k ≤ (n + k : Nat) - 1 := by
  induction k with
  | zero => intro n; simp only [lvF]; omega
  | succ k ih => intro n; simp only [lvF]; split <;> (have := ih (n + 1); omega)
theorem lvI_wide (xs : List Int) (v : Int) : -1 ≤ lvI xs v ∧ lvI xs v ≤ (xs.length : Int) - 1 := by
  have := lvF_wide xs v xs.length 0; unfold lvI; omega

set_option maxHeartbeats 400000 in
theorem refLevel_any (s : Sup) (v : Int) (al : Option Addr) (cl : Nat) (w : World) (h : SlOf 1 RI w al s.levels) (hf : s.levels.length ≤ 16) :
    Calls Try.prog 59 #[.agg #[.int .i64 s.parent, .slice al s.levels.length cl, .int .i64 s.dropout, .int .i64 s.capacity, .bool s.always], .int .i64 v] w (Grows w (.int .i64 (lvI s.levels v))) := by
  have H := Lib.hid h
  clear h
  go_enter Try.func59, Try.ntmps59
  go_wp2_with fail
  go_loop [10] (fun i => ∃ k : Nat, k ≤ s.levels.length ∧ i = .int .i64 k ∧ Hid (lvI s.levels v = lvF s.levels v k (s.levels.length - k))) (fun i => s.levels.length - (intOf i).toNat)
  case atStart => exact ⟨0, Nat.zero_le _, rfl, Lib.hid rfl⟩
  case round =>
    obtain ⟨k, hk, rfl, hl⟩ := hrel
    by_cases hlt : k < s.levels.length
    · obtain ⟨b, o, rfl, ⟨c, _⟩⟩ := H.out.one k hlt
      have ch := has_of_cell c
      have hx : s.levels.getD k 0 = s.levels[k] := by simp [List.getD_eq_getElem?_getD, hlt]
      have hst : lvF s.levels v k (s.levels.length - k) = if v ≤ s.levels[k] then (k : Int) else lvF s.levels v (k + 1) (s.levels.length - (k + 1)) := by
        rw [show s.levels.length - k = (s.levels.length - (k + 1)) + 1 by omega]
        simp only [lvF, hx]
      have HST := Lib.hid hst
      clear hx hst
      by_cases hv : v ≤ s.levels[k]
      · have e : Hid (lvI s.levels v = k) := Lib.hid (by rw [hl.out, HST.out, if_pos hv])
        go_wp2_with fail
        go_ret
        exact ⟨ret_int e.out.symm, (Gr.refl _).alloc _⟩
      · have e : Hid (lvI s.levels v = lvF s.levels v (k + 1) (s.levels.length - (k + 1))) := Lib.hid (by rw [hl.out, HST.out, if_neg hv])
        go_wp2_with fail
        go_round
        case rel => exact ⟨k + 1, by omega, by go_num, e⟩
        case measure => simp [intOf]; omega
    · go_wp2_with fail
      go_ret
      refine ⟨ret_int ?_, (Gr.refl _).alloc _⟩
      rw [hl.out, show s.levels.length - k = 0 by omega]; rfl
end Go.Proofs.Ytoenkcojfogmmaa

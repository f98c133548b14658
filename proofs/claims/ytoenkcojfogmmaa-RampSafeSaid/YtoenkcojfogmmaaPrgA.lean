/- Contracts of the program's functions on supplies: within, valid, and slices.IndexFunc, ContainsFunc over supplies; Check. -/
import Derived.Test.YtoenkcojfogmmaaSupO
set_option linter.unusedVariables false
set_option linter.unusedSimpArgs false
namespace Go.Proofs.Ytoenkcojfogmmaa
open Go.RowKit
open Classical

theorem within_any (x lo hi : Int) (w : World) :
    Calls Try.prog 67 #[.int .i64 x, .int .i64 lo, .int .i64 hi] w fun e w' => e = .returned (.bool (decide (lo ≤ x) && decide (x ≤ hi))) ∧ w = w' := by
  go_enter Try.func67, Try.ntmps67
  go_wp2
  all_goals go_ret
  all_goals exact ⟨ret_bool (by rw [Bool.eq_iff_iff]; simp; try omega), rfl⟩

theorem not_sup_lv {s : Sup} {k m : Nat} (hm : m < s.levels.length) (h : ¬ LvOk s.levels m) : ¬ SupOk s k := fun hs => h (hs.2 m hm)

set_option maxRecDepth 100000 in
set_option maxHeartbeats 1000000 in
theorem valid_any (s : Sup) (al : Option Addr) (cl k : Nat) (w : World) (hk : k ≤ 16) (hf : Fit s.levels.length) (h : SlOf 1 RI w al s.levels) :
    Calls Try.prog 76 #[.agg #[.int .i64 s.parent, .slice al s.levels.length cl, .int .i64 s.dropout, .int .i64 s.capacity, .bool s.always], .int .i64 k] w (Grows w (.bool (decide (SupOk s k)))) := by
  unfold Fit at hf
  have CL := Lib.hid h
  clear h
  by_cases hH : HeadOk s k
  · have HH := Lib.hid hH
    obtain ⟨h1, h2, h3, h4, h5, h6, h7, h8⟩ := hH
    have h6' : s.parent < 0 → (s.dropout != 0) = false := fun h => by simp [h6 h]
    clear h6
    have h3' : (((s.levels.length : Nat) : Int) == 0) = false := by simp; intro e; rw [e] at h3; simp at h3
    by_cases hp : s.parent < 0
    all_goals
      first | (have h6 := h6' hp) | skip
      clear h6'
      go_enter Try.func76, Try.ntmps76
      go_wp2_with (go_at_call 67; refine (within_any _ _ _ _).mono ?_; rintro e w' ⟨rfl, rfl⟩)
      obtain ⟨w2, hw2⟩ : ∃ w2 : World, Hid (w2 = w.alloc (.cells #[.int .i64 s.parent, .slice al s.levels.length cl, .int .i64 s.dropout, .int .i64 s.capacity, .bool s.always] 70)) := ⟨_, Lib.hid rfl⟩
      go_loopw [44] (fun i wr => ∃ m : Nat, m ≤ s.levels.length ∧ i = .int .i64 m ∧ (∀ j, j < m → LvOk s.levels j) ∧ Gr w2 wr) (fun i _ => s.levels.length - (intOf i).toNat)
      case atStart => exact ⟨0, Nat.zero_le _, rfl, fun j h => absurd h (by omega), by rw [hw2.out]; exact Gr.refl _⟩
      case round =>
        obtain ⟨m, hm, rfl, hlv, hg2⟩ := hrel
        have HLV := Lib.hid hlv
        have G2 := Lib.hid hg2
        have G1 : Hid (Gr w wr) := Lib.hid (((Gr.refl w).alloc _).trans (hw2.out ▸ hg2))
        have e1 : wr.cell? ⟨w.heap.size, 1, none⟩ = some (.slice al s.levels.length cl) := by
          have := hg2; rw [hw2.out] at this; exact cell_gr this (by simp [go_sem])
        clear hlv hg2
        by_cases hlm : m < s.levels.length
        · obtain ⟨bl, ol, rfl, hcs⟩ := (CL.out.giI G1.out).all1 (by omega)
          obtain ⟨d1, d1w, d1x⟩ := hcs m hlm
          by_cases hm0 : 0 < m
          · obtain ⟨d2, _⟩ := hcs (m - 1) (by omega)
            clear hcs
            go_wp2_with (go_at_call 67; refine (within_any _ _ _ _).mono ?_; rintro e w' ⟨rfl, rfl⟩)
            all_goals first
              | (go_ret; exact ⟨ret_bool (dec_false (not_sup_lv hlm (by rintro ⟨_, q1, q2, q3⟩; have q4 := q3 hm0; omega))), G1.out⟩)
              | (go_roundw; (case rel => exact ⟨m + 1, by omega, by go_num, fun j hj => by (by_cases e : j = m); (· subst e; exact ⟨hlm, by omega, by omega, fun _ => by omega⟩); (· exact HLV.out j (by omega)), G2.out⟩); (case measure => simp [intOf]; omega))
          · clear hcs
            go_wp2_with (go_at_call 67; refine (within_any _ _ _ _).mono ?_; rintro e w' ⟨rfl, rfl⟩)
            all_goals first
              | (go_ret; exact ⟨ret_bool (dec_false (not_sup_lv hlm (by rintro ⟨_, q1, q2, q3⟩; omega))), G1.out⟩)
              | (go_roundw; (case rel => exact ⟨m + 1, by omega, by go_num, fun j hj => by (by_cases e : j = m); (· subst e; exact ⟨hlm, by omega, by omega, fun _ => by omega⟩); (· exact HLV.out j (by omega)), G2.out⟩); (case measure => simp [intOf]; omega))
        · go_wp2
          go_ret
          exact ⟨ret_bool (dec_true ⟨HH.out, fun i hi => HLV.out i (by omega)⟩), G1.out⟩
  · have hB := Lib.hid (show ¬ SupOk s k from fun q => hH q.1)
    unfold HeadOk at hH
    have h3' : (((s.levels.length : Nat) : Int) == 0) = decide (s.levels.length < 1) := by rw [Bool.eq_iff_iff]; simp
    go_enter Try.func76, Try.ntmps76
    go_wp2_with (go_at_call 67; refine (within_any _ _ _ _).mono ?_; rintro e w' ⟨rfl, rfl⟩)
    all_goals first
      | (go_ret; exact ⟨ret_bool (dec_false hB.out), by repeat (first | with_reducible exact Gr.refl _ | with_reducible refine Gr.alloc _ ?_)⟩)
      | (exfalso; (try simp only [Bool.not_eq_eq_eq_not, Bool.not_false, Bool.not_true, decide_eq_true_eq, decide_eq_false_iff_not, bne_eq_false_iff_eq, bne_iff_ne, ne_eq, ← List.length_eq_zero_iff] at *); omega)

end Go.Proofs.Ytoenkcojfogmmaa

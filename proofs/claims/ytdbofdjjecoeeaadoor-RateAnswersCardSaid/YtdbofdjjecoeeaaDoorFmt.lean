/- rate.Floor and rate.Format: what they return for every rate; Format where the library's table of powers of ten lies as it was laid. -/
import Derived.Test.YtdbofdjjecoeeaaDoorMade
import Derived.Test.YtdbofdjjecoeeaaDoorShelf
import Derived.WalkSmall
import Derived.Lib.LaidTab
import Derived.Lib.ItoaLen
import Derived.Laws.Concat
set_option linter.unusedVariables false
set_option linter.unusedSimpArgs false
namespace Go.Proofs.YtdbofdjjecoeeaaDoor
open Go.RowKit

/-- The table of powers of ten lies as it was laid. -/
def Pow (w : World) : Prop := Lib.TabIs Tryd.prog w "internal/strconv.uint64pow10" .u64 Lib.pow10Tab
theorem powNamed : Tryd.prog.globalNamed "internal/strconv.uint64pow10" = some 3 := by kernel_rfl
theorem Pow.has {w : World} (h : Pow w) : 3 < w.heap.size := by
  unfold Pow Lib.TabIs World.var? at h
  rw [powNamed] at h
  rcases Nat.lt_or_ge 3 w.heap.size with h1 | h1
  · exact h1
  · simp [Array.getElem?_eq_none h1] at h
theorem Pow.gr {w w' : World} (h : Pow w) (hg : Gr w w') : Pow w' := var?_below hg.below powNamed h.has h
theorem Pow.xt {w : World} (h : Pow w) (O : Array Obj) (d : Nat) : Pow (xt w O d) := h.gr ⟨O, d, rfl⟩
theorem grow_gr (w : World) (k : Nat) (os : Array Obj) : Gr w (Sort.grow (w.drewN k) os) := ⟨os, w.drawn + k, rfl⟩
theorem itoa_any (n : Int) (w : World) (h0 : -9223372036854775808 ≤ n) (h1 : n ≤ 9223372036854775807) (ht : Pow w) :
    Calls Tryd.prog 32 #[.int .i64 n] w (Grows w (.string ⟨(Lib.itoa n).toArray⟩)) :=
  (Tryd.strconv_Itoa n h0 h1 w ht).mono fun e w' ⟨he, k, os, hw⟩ => ⟨he, by rw [hw]; exact grow_gr w k os⟩

/-- What Floor returns. -/
def floorI (n d : Int) : Int := if validB n d = true then n / d else 0
theorem floor_any (n d : Int) (w : World) (hn0 : -9223372036854775808 ≤ n) (hn1 : n ≤ 9223372036854775807) (hd0 : -9223372036854775808 ≤ d) (hd1 : d ≤ 9223372036854775807) :
    Calls Tryd.prog 8 #[.agg #[.int .i64 n, .int .i64 d]] w (Grows w (.int .i64 (floorI n d))) := by
  by_cases hv : validB n d = true
  · obtain ⟨v1, v2, v3, v4, v5⟩ := valid_parts hv
    clear v5
    have a1 := ediv_bounds n d v1 v3
    go_enter Tryd.func8, Tryd.ntmps8
    go_wp2_with (go_at_call 16; refine (valid_any _ _ _ (by omega) (by omega) (by omega) (by omega)).mono ?_; rintro e w' ⟨rfl, O1, D1, rfl⟩)
    go_ret
    exact ⟨ret_int (by rw [floorI, if_pos hv]), by repeat (first | exact Gr.refl _ | refine Gr.xt _ _ ?_ | refine Gr.alloc _ ?_ | refine Gr.drewN _ ?_)⟩
  · go_enter Tryd.func8, Tryd.ntmps8
    go_wp2_with (go_at_call 16; refine (valid_any _ _ _ (by omega) (by omega) (by omega) (by omega)).mono ?_; rintro e w' ⟨rfl, O1, D1, rfl⟩)
    go_ret
    exact ⟨ret_int (by rw [floorI, if_neg hv]), by repeat (first | exact Gr.refl _ | refine Gr.xt _ _ ?_ | refine Gr.alloc _ ?_ | refine Gr.drewN _ ?_)⟩

/-- What Format returns. -/
def fmtL (n d : Int) : List UInt8 := if validB n d = true then (if d = 1 then Lib.itoa n else Lib.itoa n ++ 47 :: Lib.itoa d) else []
theorem ret_str {a b : List UInt8} (h : a = b) : Ending.returned (.string ⟨a.toArray⟩) = .returned (.string ⟨b.toArray⟩) := by rw [h]
theorem format_any (n d : Int) (w : World) (hn0 : -9223372036854775808 ≤ n) (hn1 : n ≤ 9223372036854775807) (hd0 : -9223372036854775808 ≤ d) (hd1 : d ≤ 9223372036854775807) (ht : Pow w) :
    Calls Tryd.prog 10 #[.agg #[.int .i64 n, .int .i64 d]] w (Grows w (.string ⟨(fmtL n d).toArray⟩)) := by
  have HT := Lib.hid ht
  clear ht
  by_cases hv : validB n d = true
  · obtain ⟨v1, v2, v3, v4, v5⟩ := valid_parts hv
    clear v5
    by_cases hd : d = 1
    · subst hd
      go_enter Tryd.func10, Tryd.ntmps10
      go_wp2_with (go_at_call 16; refine (valid_any _ _ _ (by omega) (by omega) (by omega) (by omega)).mono ?_; rintro e w' ⟨rfl, O1, D1, rfl⟩)
      refine (itoa_any _ _ (by omega) (by omega) (HT.out.gr (by repeat (first | with_reducible exact Gr.refl _ | with_reducible refine Gr.xt _ _ ?_ | with_reducible refine Gr.alloc _ ?_)))).mono ?_
      rintro e w' ⟨rfl, O2, D2, rfl⟩
      go_wp2_with fail
      go_ret
      exact ⟨ret_str (by rw [fmtL, if_pos hv, if_pos rfl]), by repeat (first | exact Gr.refl _ | refine Gr.xt _ _ ?_ | refine Gr.alloc _ ?_ | refine Gr.drewN _ ?_)⟩
    · go_enter Tryd.func10, Tryd.ntmps10
      go_wp2_with (go_at_call 16; refine (valid_any _ _ _ (by omega) (by omega) (by omega) (by omega)).mono ?_; rintro e w' ⟨rfl, O1, D1, rfl⟩)
      have l1 := Lib.itoa_length_le n (by omega) (by omega)
      have l2 := Lib.itoa_length_le d (by omega) (by omega)
      have s1 : ∀ W : World, (Op.stringOp .add ⟨(Lib.itoa n).toArray⟩ ⟨#[47]⟩).run Tryd.prog W = .ok (.string ⟨(Lib.itoa n ++ [47]).toArray⟩) W := fun W => run_string_add_lists W _ [47] (by omega) (by simp)
      have s2 : ∀ W : World, (Op.stringOp .add ⟨(Lib.itoa n ++ [47]).toArray⟩ ⟨(Lib.itoa d).toArray⟩).run Tryd.prog W = .ok (.string ⟨((Lib.itoa n ++ [47]) ++ Lib.itoa d).toArray⟩) W := fun W => run_string_add_lists W _ _ (by simp; omega) (by omega)
      refine wp_region_growsx (by kernel_rfl) (by kernel_rfl) ?_
      repeat (go_big_quiet_step (first | (go_at_call 32; exact calls_grows (itoa_any _ _ (by omega) (by omega) (HT.out.gr (by repeat (first | with_reducible exact Gr.refl _ | with_reducible refine Gr.xt _ _ ?_ | with_reducible refine Gr.alloc _ ?_)))))))
      refine wpQuiet_nil ?_
      rintro _ ⟨⟨O5, d5⟩, rfl⟩
      go_wp2_with fail
      go_ret
      exact ⟨ret_str (by rw [fmtL, if_pos hv, if_neg hd]), by repeat (first | exact Gr.refl _ | refine Gr.xt _ _ ?_ | refine Gr.alloc _ ?_ | refine Gr.drewN _ ?_)⟩
  · go_enter Tryd.func10, Tryd.ntmps10
    go_wp2_with (go_at_call 16; refine (valid_any _ _ _ (by omega) (by omega) (by omega) (by omega)).mono ?_; rintro e w' ⟨rfl, O1, D1, rfl⟩)
    go_ret
    exact ⟨by rw [fmtL, if_neg hv]; rfl, by repeat (first | exact Gr.refl _ | refine Gr.xt _ _ ?_ | refine Gr.alloc _ ?_ | refine Gr.drewN _ ?_)⟩
end Go.Proofs.YtdbofdjjecoeeaaDoor

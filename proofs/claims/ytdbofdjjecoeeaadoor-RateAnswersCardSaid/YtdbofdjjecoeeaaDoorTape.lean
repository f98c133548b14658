/- The tape that the statements read their numbers from: what its functions return, as far as the statements need it (a number in the range that is asked for), and that they move the tape's place and nothing else. -/
import Derived.Test.YtdbofdjjecoeeaaDoorMem
set_option linter.unusedVariables false
set_option linter.unusedSimpArgs false
namespace Go.Proofs.YtdbofdjjecoeeaaDoor
open Go.RowKit

theorem setCell_id {w : World} {a : Addr} {v : Value} (h : w.cell? a = some v) : w.setCell a v = w := by
  unfold World.setCell
  unfold World.cell? at h
  cases w with
  | mk heap tape drawn os output =>
  simp only [World.mk.injEq, and_true] at *
  apply Array.ext_getElem?
  intro i
  rw [Array.getElem?_modify]
  split
  · rename_i e
    subst e
    cases hb : heap[a.block]? with
    | none => simp
    | some o =>
      simp only [hb] at h
      cases o with
      | cells c t f =>
        simp only at h
        split at h
        · cases h
        · rename_i hs
          simp only [Option.map_some, Option.some.injEq, hs]
          congr 1
          apply Array.ext_getElem?
          intro j
          simp only [Bool.false_eq_true, if_false]
          rw [Array.getElem?_setIfInBounds]
          split
          · rename_i e; subst e; split
            · exact h.symm
            · rename_i hn; rw [Array.getElem?_eq_none (by omega)] at h; cases h
          · rfl
      | _ => cases h
  · rfl
@[simp, go_sem] theorem setCell_setCell (w : World) (a : Addr) (u v : Value) : (w.setCell a u).setCell a v = w.setCell a v := by
  unfold World.setCell
  congr 1
  apply Array.ext_getElem?
  intro i
  simp only [Array.getElem?_modify]
  split
  · cases w.heap[i]? with
    | none => rfl
    | some o =>
      cases o with
      | cells c t f =>
        simp only [Option.map_some, Option.some.injEq]
        congr 1
        split
        · rfl
        · apply Array.ext_getElem?
          intro j
          simp only [Array.getElem?_setIfInBounds, Array.size_setIfInBounds]
          split <;> rfl
      | _ => rfl
  · rfl

/-- The elements of a list of numbers that came in. -/
def IntsIn (w : World) (b : Nat) (ao : Option Addr) (len : Nat) : Prop :=
  ∀ k, k < len → ∃ eb eo x, ao = some ⟨eb, eo, none⟩ ∧ eb ≠ b ∧ w.cell? ⟨eb, eo + k, none⟩ = some (.int .i64 x) ∧ -9223372036854775808 ≤ x ∧ x ≤ 9223372036854775807
/-- Block b is a tape of len numbers at place p. -/
def Tape (w : World) (b : Nat) (p : Int) (len : Nat) : Prop :=
  ∃ ao cap, w.cell? ⟨b, 0, none⟩ = some (.slice ao len cap) ∧ w.cell? ⟨b, 1, none⟩ = some (.int .i64 p) ∧ w.frozen? ⟨b, 1, none⟩ = false ∧ 0 ≤ p ∧ p ≤ len ∧ len ≤ 500 ∧ IntsIn w b ao len
theorem Tape.has {w : World} {b : Nat} {p : Int} {len : Nat} (h : Tape w b p len) : Has w b := by
  obtain ⟨ao, cap, h1, _⟩ := h; exact has_of_cell h1
theorem IntsIn.gr {w w' : World} {b : Nat} {ao : Option Addr} {len : Nat} (h : IntsIn w b ao len) (hg : Gr w w') : IntsIn w' b ao len := by
  intro k hk
  obtain ⟨eb, eo, x, h1, h2, h3, h4⟩ := h k hk
  obtain ⟨O, d, rfl⟩ := hg
  exact ⟨eb, eo, x, h1, h2, by rw [cell?_xt (has_of_cell h3)]; exact h3, h4⟩
theorem Tape.gr {w w' : World} {b : Nat} {p : Int} {len : Nat} (h : Tape w b p len) (hg : Gr w w') : Tape w' b p len := by
  have hb := h.has
  obtain ⟨ao, cap, h1, h2, h3, h4, h5, h6, h7⟩ := h
  have h7' := h7.gr hg
  obtain ⟨O, d, rfl⟩ := hg
  exact ⟨ao, cap, by rw [cell?_xt hb]; exact h1, by rw [cell?_xt hb]; exact h2, by rw [frozen?_xt hb]; exact h3, h4, h5, h6, h7'⟩
theorem Tape.alloc {w : World} {b : Nat} {p : Int} {len : Nat} (o : Obj) (h : Tape w b p len) : Tape (w.alloc o) b p len := h.gr ((Gr.refl w).alloc o)
theorem Tape.xt {w : World} {b : Nat} {p : Int} {len : Nat} (O : Array Obj) (d : Nat) (h : Tape w b p len) : Tape (xt w O d) b p len := h.gr ⟨O, d, rfl⟩
theorem Tape.drew {w : World} {b : Nat} {p : Int} {len : Nat} (h : Tape w b p len) : Tape w.drew b p len := h.gr (Gr.refl w).drew
theorem Tape.drewN {w : World} {b : Nat} {p : Int} {len : Nat} (n : Nat) (h : Tape w b p len) : Tape (w.drewN n) b p len := h.gr ((Gr.refl w).drewN n)
theorem Tape.set {w : World} {b : Nat} {p : Int} {len : Nat} (h : Tape w b p len) {p' : Int} (h0 : 0 ≤ p') (h1 : p' ≤ len) : Tape (w.setCell ⟨b, 1, none⟩ (.int .i64 p')) b p' len := by
  obtain ⟨ao, cap, c0, c1, c2, c3, c4, c5, c6⟩ := h
  refine ⟨ao, cap, ?_, ?_, ?_, h0, h1, c5, ?_⟩
  · rw [World.cell?_setCell_other _ _ _ _ (by simp)]; exact c0
  · exact World.cell?_setCell_same _ _ _ c1
  · rw [World.frozen?_setCell]; exact c2
  · intro k hk
    obtain ⟨eb, eo, x, d1, d2, d3, d4⟩ := c6 k hk
    exact ⟨eb, eo, x, d1, d2, by rw [World.cell?_setCell_other _ _ _ _ (by simp)]; exact d3, d4⟩

/-- A number is read off the tape in block b. -/
def Reads (w : World) (b len : Nat) (S : Int → Prop) (e : Ending) (w' : World) : Prop :=
  ∃ x p', e = .returned (.int .i64 x) ∧ S x ∧ 0 ≤ p' ∧ p' ≤ (len : Int) ∧ Gr (w.setCell ⟨b, 1, none⟩ (.int .i64 p')) w'

def InTo (lo hi x : Int) : Prop := lo ≤ x ∧ x ≤ hi

set_option maxHeartbeats 400000 in
theorem raw_any (w : World) (b len : Nat) (p : Int) (h : Tape w b p len) :
    Calls Tryd.prog 44 #[.pointer (some ⟨b, 0, none⟩)] w (Reads w b len Wide) := by
  have hb := h.has
  obtain ⟨ao, cap, c0, c1, c2, c3, c4, c5, c6⟩ := h
  by_cases hp : p < len
  · obtain ⟨k, rfl⟩ := Int.eq_ofNat_of_zero_le c3
    obtain ⟨eb, eo, x, d1, d2, d3, d4, d5⟩ := c6 k (by omega)
    subst d1
    have d6 := has_of_cell d3
    have d7 : (w.setCell ⟨b, 1, none⟩ (.int .i64 (k + 1))).cell? ⟨eb, eo + k, none⟩ = some (.int .i64 x) := by
      rw [World.cell?_setCell_other _ _ _ _ (by simp)]; exact d3
    clear c6
    go_enter Tryd.func44, Tryd.ntmps44
    go_wp2
    go_quiet (fail)
    go_wp2
    have e1 : (k : Int) + 1 - 1 = k := by omega
    go_quiet (fail)
    go_wp2
    go_ret
    refine ⟨x, (k : Int) + 1, rfl, ⟨d4, d5⟩, by omega, by omega, ?_⟩
    repeat (first | exact Gr.refl _ | refine Gr.xt _ _ ?_ | refine Gr.alloc _ ?_ | refine Gr.drewN _ ?_)
  · have hp' : (len : Int) ≤ p := by omega
    clear c6
    go_enter Tryd.func44, Tryd.ntmps44
    go_wp2
    go_quiet (fail)
    go_wp2
    go_ret
    exact ⟨0, p, rfl, by unfold Wide; omega, c3, c4, by rw [setCell_id c1]; exact (Gr.refl w).drewN _⟩

theorem tmod_fix (x n : Int) (hn : 1 ≤ n) : (x.tmod n < 0 → x.tmod n + n = x % n) ∧ (0 ≤ x.tmod n → x.tmod n = x % n) := by
  have h := @Int.tmod_eq_emod x n
  have h1 := Int.emod_nonneg x (show n ≠ 0 by omega)
  have h2 := Int.emod_lt_of_pos x (show 0 < n by omega)
  have h3 : (n.natAbs : Int) = n := by omega
  split at h <;> constructor <;> intro h4 <;> omega

set_option maxHeartbeats 400000 in
theorem mod_any (x n : Int) (w : World) (hx : Wide x) (hn : 1 ≤ n) (hn1 : n ≤ 9223372036854775807) :
    Calls Tryd.prog 43 #[.int .i64 x, .int .i64 n] w fun e w' => e = .returned (.int .i64 (x % n)) ∧ w = w' := by
  obtain ⟨hx0, hx1⟩ := hx
  have h := tmod_fix x n hn
  have h1 := Int.emod_nonneg x (show n ≠ 0 by omega)
  have h2 := Int.emod_lt_of_pos x (show 0 < n by omega)
  have h3 := Int.tmod_lt_of_pos x (show 0 < n by omega)
  have h4 : -n ≤ x.tmod n := by
    rcases Int.lt_or_le (x.tmod n) 0 with q | q
    · have := h.1 q; omega
    · omega
  have H := Lib.hid h
  clear h
  by_cases hs : x.tmod n < 0
  · have := H.out.1 hs
    have T := Lib.hid this
    clear this
    go_enter Tryd.func43, Tryd.ntmps43
    go_wp2
    go_ret
    exact ⟨ret_int T.out, rfl⟩
  · have := H.out.2 (by omega)
    have T := Lib.hid this
    clear this
    go_enter Tryd.func43, Tryd.ntmps43
    go_wp2
    go_ret
    exact ⟨ret_int T.out, rfl⟩

set_option maxHeartbeats 400000 in
theorem n_any (w : World) (b len : Nat) (p n : Int) (h : Tape w b p len) (hn : 1 ≤ n) (hn1 : n ≤ 9223372036854775807) :
    Calls Tryd.prog 24 #[.pointer (some ⟨b, 0, none⟩), .int .i64 n] w (Reads w b len (InTo 0 (n - 1))) := by
  have H := Lib.hid h
  clear h
  go_enter Tryd.func24, Tryd.ntmps24
  go_wp2_with fail
  refine (raw_any _ b len p H.out).mono ?_
  rintro e w' ⟨x, p', rfl, hx, q0, q1, O, d, rfl⟩
  have hx0 := hx.1
  have hx1 := hx.2
  go_wp2_with fail
  refine (mod_any x n _ hx hn hn1).mono ?_
  rintro e w' ⟨rfl, rfl⟩
  go_wp2_with fail
  go_ret
  exact ⟨x % n, p', rfl, ⟨Int.emod_nonneg x (show n ≠ 0 by omega), by have := Int.emod_lt_of_pos x (show 0 < n by omega); omega⟩, q0, q1, O, d, rfl⟩

set_option maxHeartbeats 400000 in
theorem range_any (w : World) (b len : Nat) (p lo hi : Int) (h : Tape w b p len) (hl : 0 ≤ lo) (hh : lo ≤ hi) (hh1 : hi ≤ 9223372036854775806) :
    Calls Tryd.prog 15 #[.pointer (some ⟨b, 0, none⟩), .int .i64 lo, .int .i64 hi] w (Reads w b len (InTo lo hi)) := by
  have H := Lib.hid h
  clear h
  go_enter Tryd.func15, Tryd.ntmps15
  go_wp2_with fail
  refine (n_any _ b len p _ H.out (by omega) (by omega)).mono ?_
  rintro e w' ⟨x, p', rfl, hx, q0, q1, O, d, rfl⟩
  have hx0 := hx.1
  have hx1 := hx.2
  go_wp2_with fail
  go_ret
  exact ⟨lo + x, p', rfl, ⟨by omega, by omega⟩, q0, q1, O, d, rfl⟩

set_option maxHeartbeats 400000 in
theorem pick_any (w : World) (b len : Nat) (p : Int) (h : Tape w b p len) (eb n : Nat) (S : Int → Prop) (hn : 1 ≤ n) (hn1 : n ≤ 1000) (hne : eb ≠ b) (hel : ∀ k, k < n → ∃ x, w.cell? ⟨eb, k, none⟩ = some (.int .i64 x) ∧ S x) :
    Calls Tryd.prog 30 #[.pointer (some ⟨b, 0, none⟩), .slice (some ⟨eb, 0, none⟩) n n] w (Reads w b len S) := by
  have H := Lib.hid h
  have HE := Lib.hid hel
  clear h hel
  go_enter Tryd.func30, Tryd.ntmps30
  go_wp2_with fail
  refine (n_any _ b len p _ H.out (by omega) (by omega)).mono ?_
  rintro e w' ⟨y, p', rfl, hy, q0, q1, O, d, rfl⟩
  have hy0 := hy.1
  have hy1 := hy.2
  obtain ⟨k, rfl⟩ := Int.eq_ofNat_of_zero_le hy0
  obtain ⟨x, hx, hS⟩ := HE.out k (by omega)
  have hHas := has_of_cell hx
  have hx' : (w.setCell ⟨b, 1, none⟩ (.int .i64 p')).cell? ⟨eb, k, none⟩ = some (.int .i64 x) := by
    rw [World.cell?_setCell_other _ _ _ _ (by simp)]; exact hx
  have hk : (k : Int) < n := by omega
  have hS' := Lib.hid hS
  clear hS
  go_wp2_with fail
  go_ret
  exact ⟨x, p', rfl, hS'.out, q0, q1, O, d, rfl⟩
end Go.Proofs.YtdbofdjjecoeeaaDoor

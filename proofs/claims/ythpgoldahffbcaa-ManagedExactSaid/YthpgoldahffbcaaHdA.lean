/- Holds as plain data, how they lie in memory, and what the document says of them, in plain terms. No conditions. -/
import Derived.Test.YthpgoldahffbcaaRow
set_option linter.unusedVariables false
set_option linter.unusedSimpArgs false
namespace Go.Proofs.Ythpgoldahffbcaa
open Go.RowKit

structure Hld where
  device : Int
  kind : Int
  unit : Int
  deriving DecidableEq
def RHld (w : World) (b o : Nat) (s : Hld) : Prop := RI w b o s.device ∧ RI w b (o + 1) s.kind ∧ RI w b (o + 2) s.unit
theorem RHld.mono : Mono RHld := fun _ _ _ _ _ hg ⟨h0, h1, h2⟩ => ⟨RI.mono _ _ _ _ _ hg h0, RI.mono _ _ _ _ _ hg h1, RI.mono _ _ _ _ _ hg h2⟩
theorem hlds_gr {w w' : World} {ao : Option Addr} {xs : List Hld} (h : SlOf 3 RHld w ao xs) (hg : Gr w w') : SlOf 3 RHld w' ao xs := h.gr RHld.mono hg
def encH (x : Hld) : List Value := [.int .i64 x.device, .int .i64 x.kind, .int .i64 x.unit]
def encHs (l : List Hld) : List Value := l.flatMap encH
theorem encH_len (x : Hld) : (encH x).length = 3 := rfl
theorem encHs_len (l : List Hld) : (encHs l).length = l.length * 3 := flat_len encH 3 encH_len l
theorem encHs_snoc (l : List Hld) (x : Hld) : encHs (l ++ [x]) = encHs l ++ encH x := by simp [encHs]
theorem encHs_app (l m : List Hld) : encHs (l ++ m) = encHs l ++ encHs m := by simp [encHs]
theorem encH_one (p : Hld) : ∀ u ∈ encH p, u.oneCell' = true := by
  intro u hu
  simp only [encH, List.mem_cons, List.not_mem_nil, or_false] at hu
  rcases hu with rfl | rfl | rfl <;> rfl
theorem encHs_one (l : List Hld) : ∀ u ∈ encHs l, u.oneCell' = true := by
  intro u hu
  obtain ⟨x, _, h⟩ := List.mem_flatMap.1 hu
  exact encH_one x u h
def HWide (x : Hld) : Prop := Wide x.device ∧ Wide x.kind ∧ Wide x.unit
def HsWide (l : List Hld) : Prop := ∀ k (h : k < l.length), HWide l[k]
theorem HsWide.mem {l : List Hld} (h : HsWide l) {x : Hld} (hx : x ∈ l) : HWide x := by
  obtain ⟨k, hk, rfl⟩ := List.getElem_of_mem hx
  exact h k hk
theorem HsWide.of_mem {l : List Hld} (h : ∀ x ∈ l, HWide x) : HsWide l := fun k hk => h _ (List.getElem_mem hk)
theorem sl_wide {w : World} {ao : Option Addr} {l : List Hld} (h : SlOf 3 RHld w ao l) : HsWide l := fun k hk => by
  obtain ⟨b, o, _, h0, h1, h2⟩ := h k hk
  exact ⟨h0.2, h1.2, h2.2⟩
theorem RowS.slH {w : World} {B T : Nat} {l : List Hld} (h : RowS w B T (encHs l)) (hw : HsWide l) : SlOf 3 RHld w (some ⟨B, 0, none⟩) l := by
  intro k hk
  refine ⟨B, 0, rfl, ?_⟩
  have key : ∀ j, (hj : j < 3) → w.cell? ⟨B, 0 + k * 3 + j, none⟩ = (encH l[k])[j]? := fun j hj => by
    have hlt : 0 + k * 3 + j < (encHs l).length := by rw [encHs_len]; omega
    rw [h.cell _ hlt, ← List.getElem?_eq_getElem hlt, Nat.zero_add]
    exact flat_at encH 3 encH_len l k j hk hj
  have w1 := hw k hk
  exact ⟨⟨key 0 (by omega), w1.1⟩, ⟨key 1 (by omega), w1.2.1⟩, ⟨key 2 (by omega), w1.2.2⟩⟩
theorem Own1.slH {base : Nat} {w : World} {T : Nat} {l : List Hld} {a : Option Addr} (h : Own1 base w T (encHs l) a) (hw : HsWide l) : SlOf 3 RHld w a l := by
  rcases h with h | ⟨B, rfl, _, h⟩
  · have : l = [] := by
      have e := congrArg List.length h
      rw [encHs_len] at e
      exact List.eq_nil_of_length_eq_zero (by simp at e; omega)
    subst this
    exact SlOf.nil _ _ _ _
  · exact h.slH hw
theorem slH_cells {w : World} {b o : Nat} {l : List Hld} (h : SlOf 3 RHld w (some ⟨b, o, none⟩) l) : ∀ j u, (encHs l)[j]? = some u → w.cell? ((⟨b, o, none⟩ : Addr).add j) = some u := by
  intro j u hu
  have hj : j < (encHs l).length := by
    rcases Nat.lt_or_ge j (encHs l).length with q | q
    · exact q
    · rw [List.getElem?_eq_none q] at hu; cases hu
  rw [encHs_len] at hj
  have hk : j / 3 < l.length := by omega
  obtain ⟨b', o', e, h0, h1, h2⟩ := h (j / 3) hk
  cases e
  have hq := flat_at encH 3 encH_len l (j / 3) (j % 3) hk (by omega)
  rw [show j / 3 * 3 + j % 3 = j by omega] at hq
  have ha : (⟨b, o, none⟩ : Addr).add j = ⟨b, o + j / 3 * 3 + j % 3, none⟩ := by
    have : o + j / 3 * 3 + j % 3 = o + j := by omega
    rw [this]
    unfold Addr.add; split <;> simp_all
  rw [ha]
  have hu' : (encH l[j / 3])[j % 3]? = some u := by rw [← hq]; exact hu
  have h3 : j % 3 = 0 ∨ j % 3 = 1 ∨ j % 3 = 2 := by omega
  rcases h3 with e | e | e <;> rw [e] at hu' ⊢ <;> simp only [encH, List.getElem?_cons_zero, List.getElem?_cons_succ, Option.some.injEq] at hu' <;> subst hu'
  · exact h0.1
  · exact h1.1
  · exact h2.1

/-! What is right -/
def RngBad (x : Hld) : Prop := x.device < 0 ∨ 12 ≤ x.device ∨ (x.kind ≠ 1 ∧ x.kind ≠ 2) ∨ x.unit < 0
instance (x : Hld) : Decidable (RngBad x) := by unfold RngBad; infer_instance
def dup (x y : Hld) : Prop := y.device = x.device ∧ y.unit = x.unit
instance (x y : Hld) : Decidable (dup x y) := by unfold dup; infer_instance
def own (x y : Hld) : Prop := y.unit = x.unit ∧ (x.kind = 2 ∨ y.kind = 2)
instance (x y : Hld) : Decidable (own x y) := by unfold own; infer_instance
/-- The error of a hold after others. -/
def flt (l : List Hld) (x : Hld) : Int := if RngBad x then 2 else if ∃ y ∈ l, dup x y then 5 else if ∃ y ∈ l, own x y then 40 else 0
theorem flt_wide (l : List Hld) (x : Hld) : 0 ≤ flt l x ∧ flt l x ≤ 40 := by unfold flt; split <;> (try split) <;> (try split) <;> omega
/-- The first error of holds from place i on. -/
def vldF (l : List Hld) : Nat → Nat → Int
  | _, 0 => 0
  | i, n + 1 => match l[i]? with
    | none => 0
    | some x => if flt (l.take i) x = 0 then vldF l (i + 1) n else flt (l.take i) x
def vld (l : List Hld) : Int := if 96 < l.length then 3 else vldF l 0 l.length
theorem vldF_wide (l : List Hld) (n : Nat) : ∀ i, 0 ≤ vldF l i n ∧ vldF l i n ≤ 40 := by
  induction n with
  | zero => intro i; simp [vldF]
  | succ n ih =>
    intro i
    rw [vldF]
    split
    · omega
    · split
      · exact ih _
      · exact flt_wide _ _
theorem vld_wide (l : List Hld) : 0 ≤ vld l ∧ vld l ≤ 40 := by
  unfold vld
  split
  · omega
  · exact vldF_wide _ _ _
theorem vldF_zero {l : List Hld} : ∀ (n i : Nat), i + n = l.length → (vldF l i n = 0 ↔ ∀ k (h : k < l.length), i ≤ k → flt (l.take k) l[k] = 0) := by
  intro n
  induction n with
  | zero => intro i hi; simp only [vldF, true_iff]; intro k h hk; omega
  | succ n ih =>
    intro i hi
    have hlt : i < l.length := by omega
    rw [vldF, List.getElem?_eq_getElem hlt]
    simp only
    constructor
    · intro h
      split at h
      · rename_i h0
        have := (ih (i + 1) (by omega)).1 h
        intro k hk hik
        by_cases e : k = i
        · subst e; exact h0
        · exact this k hk (by omega)
      · rename_i h0; exact absurd h h0
    · intro h
      rw [if_pos (h i hlt (Nat.le_refl _))]
      exact (ih (i + 1) (by omega)).2 fun k hk hik => h k hk (by omega)
theorem vld_zero {l : List Hld} : vld l = 0 ↔ l.length ≤ 96 ∧ ∀ k (h : k < l.length), flt (l.take k) l[k] = 0 := by
  unfold vld
  split
  · constructor
    · intro h; omega
    · intro h; omega
  · rw [vldF_zero l.length 0 (by omega)]
    exact ⟨fun h => ⟨by omega, fun k hk => h k hk (Nat.zero_le _)⟩, fun h k hk _ => h.2 k hk⟩
def takeE (l : List Hld) (x : Hld) : Int := if vld l ≠ 0 then 1 else if 96 ≤ l.length then 3 else flt l x
def takeP (l : List Hld) (x : Hld) : List Hld := if takeE l x = 0 then l ++ [x] else []
theorem takeE_wide (l : List Hld) (x : Hld) : 0 ≤ takeE l x ∧ takeE l x ≤ 40 := by
  unfold takeE
  split
  · omega
  · split
    · omega
    · exact flt_wide _ _
end Go.Proofs.Ythpgoldahffbcaa

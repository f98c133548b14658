/- Parts of rows of numbers, for ref36.Users. -/
import Derived.Test.YthpgoldahffbcaaHeB
import Derived.Test.YthpgoldahffbcaaHdU
import Derived.Test.YthpgoldahffbcaaHdQ
import Derived.Test.YthpgoldahffbcaaFind
set_option linter.unusedVariables false
set_option linter.unusedSimpArgs false
namespace Go.Proofs.Ythpgoldahffbcaa
open Go.RowKit
theorem own_int (w : World) (d : Int) (base B : Nat) (hB : B = w.heap.size) (hb : base ≤ w.heap.size) : (w.alloc (.cells #[.int .i64 d] 3)).ownsRow base 3 1 (.slice (some ⟨B, 0, none⟩) 1 1) 1 [.int .i64 d] := by
  subst hB
  exact ⟨rfl, .inr ⟨w.heap.size, 1, _, rfl, hb, Row.new w _ _, Nat.le_refl _, by unfold maxLen; omega, rfl, rfl⟩⟩
theorem take_own1 {w : World} {base g cap : Nat} {cur : List Int} (h : w.ownsRow base 3 1 (.slice (some ⟨g, 0, none⟩) cur.length cap) cur.length (nums cur)) (j : Nat) (hj : j ≤ cur.length) : w.ownsRow base 3 1 (.slice (some ⟨g, 0, none⟩) j cap) j (nums (cur.take j)) := by
  obtain ⟨h0, ⟨e, _⟩ | ⟨g', cap', c, e, hb, hg, hn, hm, hs, ht⟩⟩ := h
  · cases e
  · cases e
    refine ⟨by simp [nums]; omega, .inr ⟨g, cap, c, rfl, hb, hg, by omega, hm, hs, ?_⟩⟩
    have : c.toList.take (j * 1) = (c.toList.take (cur.length * 1)).take (j * 1) := by rw [List.take_take]; congr 1; omega
    rw [this, ht, Nat.mul_one]
    simp [nums, List.map_take]
theorem drop_gets {w : World} {base g cap : Nat} {cur : List Int} (h : w.ownsRow base 3 1 (.slice (some ⟨g, 0, none⟩) cur.length cap) cur.length (nums cur)) (j : Nat) (hj : j ≤ cur.length) : Gets w (some ⟨g, j, none⟩) (cur.length - j) 1 (nums (cur.drop j)) := by
  refine ⟨by simp [nums], fun hne => ⟨_, rfl, fun k u hu => ?_⟩⟩
  obtain ⟨a, c, e, _, ho⟩ := owns_ownN h
  cases e
  rcases ho with q | ⟨B, e, _, q⟩
  · have : cur = [] := by simpa [nums] using q
    subst this; simp at hne
  · cases e
    have ha : (⟨g, j, none⟩ : Addr).add k = ⟨g, j + k, none⟩ := by unfold Addr.add; split <;> simp_all
    obtain ⟨hk, hu⟩ := List.getElem?_eq_some_iff.1 hu
    have hk' : j + k < cur.length := by simp [nums] at hk; omega
    rw [ha, q.iat (j + k) hk', ← hu]
    simp [nums]
theorem gets_none {w : World} {A : Option Addr} {size : Nat} : Gets w A 0 size [] := ⟨by simp, fun h => absurd rfl h⟩
/-- Two rising lists with the same members are equal. -/
theorem rising_eq : ∀ {a b : List Int}, a.Pairwise (· < ·) → b.Pairwise (· < ·) → (∀ x, x ∈ a ↔ x ∈ b) → a = b
  | [], [], _, _, _ => rfl
  | [], y :: b, _, _, h => by have := (h y).2 (by simp); simp at this
  | x :: a, [], _, _, h => by have := (h x).1 (by simp); simp at this
  | x :: a, y :: b, ha, hb, h => by
    obtain ⟨ha1, ha2⟩ := List.pairwise_cons.1 ha
    obtain ⟨hb1, hb2⟩ := List.pairwise_cons.1 hb
    have hxy : x = y := by
      have h1 : x ∈ y :: b := (h x).1 (by simp)
      have h2 : y ∈ x :: a := (h y).2 (by simp)
      rcases List.mem_cons.1 h1 with e | e
      · exact e
      · rcases List.mem_cons.1 h2 with e' | e'
        · exact e'.symm
        · have := hb1 x e; have := ha1 y e'; omega
    subst hxy
    congr 1
    refine rising_eq ha2 hb2 fun z => ?_
    constructor
    · intro hz
      rcases List.mem_cons.1 ((h z).1 (List.mem_cons_of_mem _ hz)) with e | e
      · subst e; have := ha1 z hz; omega
      · exact e
    · intro hz
      rcases List.mem_cons.1 ((h z).2 (List.mem_cons_of_mem _ hz)) with e | e
      · subst e; have := hb1 z hz; omega
      · exact e
/-- A number is laid between lesser and greater ones. -/
theorem rising_ins {cur : List Int} (h : cur.Pairwise (· < ·)) (d : Int) (j : Nat) (hj : j ≤ cur.length) (hlo : ∀ m (hm : m < cur.length), m < j → cur[m] < d) (hhi : ∀ m (hm : m < cur.length), j ≤ m → d < cur[m]) : (cur.take j ++ d :: cur.drop j).Pairwise (· < ·) ∧ ∀ x, x ∈ cur.take j ++ d :: cur.drop j ↔ x = d ∨ x ∈ cur := by
  constructor
  · rw [List.pairwise_append, List.pairwise_cons]
    refine ⟨h.sublist (List.take_sublist _ _), ⟨fun y hy => ?_, h.sublist (List.drop_sublist _ _)⟩, fun y hy z hz => ?_⟩
    · obtain ⟨k, hk, rfl⟩ := List.getElem_of_mem hy
      rw [List.getElem_drop]
      exact hhi _ (by rw [List.length_drop] at hk; omega) (by omega)
    · have hy' : y < d := by
        obtain ⟨k, hk, rfl⟩ := List.getElem_of_mem hy
        rw [List.getElem_take]
        exact hlo _ (by rw [List.length_take] at hk; omega) (by rw [List.length_take] at hk; omega)
      rcases List.mem_cons.1 hz with rfl | hz
      · exact hy'
      · have : d < z := by
          obtain ⟨k, hk, rfl⟩ := List.getElem_of_mem hz
          rw [List.getElem_drop]
          exact hhi _ (by rw [List.length_drop] at hk; omega) (by omega)
        omega
  · intro x
    rw [List.mem_append, List.mem_cons]
    constructor
    · rintro (q | q | q)
      · exact .inr (List.mem_of_mem_take q)
      · exact .inl q
      · exact .inr (List.mem_of_mem_drop q)
    · rintro (q | q)
      · exact .inr (.inl q)
      · rw [← List.take_append_drop j cur, List.mem_append] at q
        rcases q with q | q
        · exact .inl q
        · exact .inr (.inr q)
end Go.Proofs.Ythpgoldahffbcaa

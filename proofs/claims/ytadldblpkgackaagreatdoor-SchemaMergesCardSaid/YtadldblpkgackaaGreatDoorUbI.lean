/- slices.Index of the kinds, strings.Join. -/
import Derived.Test.YtadldblpkgackaaGreatDoorUbG
set_option linter.unusedVariables false
set_option linter.unusedSimpArgs false
namespace Go.Proofs.YtadldblpkgackaaGreatDoor
open Go.RowKit
open Classical

theorem map_bs (l : List St) : (l.map bs).map (fun s => s.data.toList) = l := by
  rw [List.map_map]
  conv => rhs; rw [← List.map_id l]
  apply List.map_congr_left
  intro s _
  exact bs_data s
theorem join_any (l : List St) (bk o c : Nat) (sep : St) (w : World) (hcells : ∀ j (h : j < l.length), w.cell? ⟨bk, o + j, none⟩ = some (.string (bs l[j]))) (hbk : bk < w.heap.size) (hN : l.length ≤ 1000) (hcap : l.length ≤ c) (hlen : (Lib.join l sep).length ≤ 1000000) :
    Calls Tryz.prog 47 #[.slice (some ⟨bk, o, none⟩) l.length c, .string (bs sep)] w (Grows w (.string (bs (Lib.join l sep)))) := by
  have h := Tryz.strings_Join bk o c (l.map bs) (bs sep) w (fun j x hx => by
    obtain ⟨hj, e⟩ := List.getElem?_eq_some_iff.1 hx
    rw [List.getElem_map] at e
    rw [← e]
    exact hcells j (by simpa using hj)) hbk (by rw [List.length_map]; omega) (by rw [List.length_map]; exact hcap) (by rw [map_bs, bs_data]; omega)
  rw [List.length_map, map_bs, bs_data] at h
  exact h.mono fun e w' ⟨he, hb⟩ => ⟨he, Gr.of_below hb⟩
/-- The join of words of the call's own. -/
theorem joinO_any (l : List St) (v : Value) (base : Nat) (sep : St) (w : World) (ho : w.ownsRow base 9 1 v l.length (strV l)) (h0 : 0 < l.length) (hN : l.length ≤ 1000) (hlen : (Lib.join l sep).length ≤ 1000000) :
    Calls Tryz.prog 47 #[v, .string (bs sep)] w (Grows w (.string (bs (Lib.join l sep)))) := by
  obtain ⟨g, cap, rfl, hc, _, hcell⟩ := owns_cell ho h0
  refine join_any l g 0 cap sep w (fun j hj => ?_) ?_ hN hc hlen
  · rw [Nat.zero_add, hcell j (by omega)]
    simp [strV, hj]
  · exact (ho.lt g rfl).2
theorem idx_kinds (x : St) : ∀ (l : List St) (k : Nat), Lib.idxFromS (l.map bs) (bs x) k = idxS x k l
  | [], k => rfl
  | y :: l, k => by
    have ih := idx_kinds x l (k + 1)
    by_cases e : y = x
    · subst e
      simp [Lib.idxFromS, idxS]
    · have e2 : ¬ bs y = bs x := fun q => e (bs_inj q)
      rw [List.map_cons, Lib.idxFromS, idxS, if_neg e]
      simp only [beq_iff_eq, e2, if_false]
      rw [ih]
      rfl
theorem index_any (x : St) (w : World) (hk : Kin w) :
    Calls Tryz.prog 76 #[.slice (some ⟨0, 0, none⟩) 7 7, .string (bs x)] w fun e w' => e = .returned (.int .i64 (idxS x 0 kindsS)) ∧ w = w' := by
  refine (Tryz.slices_Index_string 0 0 7 7 (kindsS.map bs) (bs x) w (by simp [kindsS]) (by omega) (fun j hj => ?_)).mono ?_
  · have hj7 : j < 7 := by simpa [kindsS] using hj
    rw [Nat.zero_add, hk j hj7, List.getD_eq_getElem?_getD, List.getElem?_eq_getElem hj, Option.getD_some, List.getElem_map]
    rfl
  · rintro e w' ⟨rfl, rfl⟩
    refine ⟨?_, rfl⟩
    rw [List.take_of_length_le (by simp [kindsS])]
    unfold Lib.idxOfS
    rw [idx_kinds x kindsS 0]
    rfl
end Go.Proofs.YtadldblpkgackaaGreatDoor

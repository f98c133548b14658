/- Lists of lists of numbers of the call's own: rows that are appended to. -/
import Derived.Test.YtdjhnfopdlgliaaTeO
set_option linter.unusedVariables false
set_option linter.unusedSimpArgs false
namespace Go.Proofs.Ytdjhnfopdlgliaa
open Go.RowKit
open Classical

/-- Block GB holds slices that own the lists gs, no two of them in one row. -/
structure GAt (base : Nat) (w : World) (GB : Nat) (vs : List Value) (gs : List (List Int)) : Prop where
  len : vs.length = gs.length
  row : Row w GB 38 vs
  own : ∀ (i : Nat) (v : Value) (g : List Int), vs[i]? = some v → gs[i]? = some g → w.ownsRow base 3 1 v g.length (nums g)
  ap : ∀ (i j : Nat) (u v : Value), i ≠ j → vs[i]? = some u → vs[j]? = some v → u.ownBlock = none ∨ u.ownBlock ≠ v.ownBlock
theorem GAt.gr {base : Nat} {w w' : World} {GB : Nat} {vs : List Value} {gs : List (List Int)} (h : GAt base w GB vs gs) (hg : Gr w w') : GAt base w' GB vs gs :=
  ⟨h.len, h.row.gr hg, fun i v g h1 h2 => Gr.owns (h.own i v g h1 h2) hg, h.ap⟩
theorem GAt.at {base : Nat} {w : World} {GB : Nat} {vs : List Value} {gs : List (List Int)} (h : GAt base w GB vs gs) {i : Nat} (hi : i < gs.length) : ∃ a c, vs[i]? = some (.slice a gs[i].length c) ∧ w.ownsRow base 3 1 (.slice a gs[i].length c) gs[i].length (nums gs[i]) := by
  have hv : i < vs.length := by rw [h.len]; exact hi
  have := h.own i vs[i] gs[i] (List.getElem?_eq_getElem hv) (List.getElem?_eq_getElem hi)
  obtain ⟨a, c, e⟩ := owns_slice this
  rw [e] at this
  exact ⟨a, c, by rw [List.getElem?_eq_getElem hv, e], this⟩
theorem Ty.set {w : World} {B T : Nat} (h : Ty w B T) (a : Addr) (v : Value) : Ty (w.setCell a v) B T := by
  obtain ⟨cur, f, h⟩ := h
  unfold Ty World.setCell
  simp only [Array.getElem?_modify, h]
  split <;> simp
theorem owns_stc {w : World} {base e size n : Nat} {v : Value} {xs : List Value} (h : w.ownsRow base e size v n xs) {B o : Nat} {u : Value} (hne : v.ownBlock ≠ some B) : (w.setCell ⟨B, o, none⟩ u).ownsRow base e size v n xs := by
  refine ⟨h.1, ?_⟩
  rcases h.2 with q | ⟨g, cap, cur, rfl, h1, h2, h3⟩
  · exact .inl q
  · refine .inr ⟨g, cap, cur, rfl, h1, ?_, h3⟩
    have : B ≠ g := fun e => hne (by rw [e]; rfl)
    simp only [World.setCell, Array.getElem?_modify]
    rw [if_neg this]; exact h2
theorem owns_ne_ty {w : World} {base e size n B T : Nat} {v : Value} {xs : List Value} (h : w.ownsRow base e size v n xs) (k : Ty w B T) (hne : e ≠ T) : v.ownBlock ≠ some B := fun q => (owns_ty h q).apart k hne rfl
theorem GAt.put {base : Nat} {w w' : World} {GB : Nat} {vs : List Value} {gs : List (List Int)} (h : GAt base w GB vs gs) {i : Nat} {v v' : Value} {g' : List Int} (hi : i < gs.length) (hv : vs[i]? = some v)
    (hown : w'.ownsRow base 3 1 v' g'.length (nums g')) (hg : w.grownBy w' v.ownBlock) (hloc : v'.ownBlock = v.ownBlock ∨ ∃ k, v'.ownBlock = some k ∧ w.heap.size ≤ k) :
    GAt base (w'.setCell ⟨GB, i, none⟩ v') GB (vs.set i v') (gs.set i g') := by
  have ovi := h.own i v gs[i] hv (List.getElem?_eq_getElem hi)
  have hrow : Row w' GB 38 vs := h.row.kept hg (h.row.ty.ne ovi (by decide))
  refine ⟨by rw [List.length_set, List.length_set]; exact h.len, hrow.set i v', fun j u g h1 h2 => ?_, fun j k u x hjk h1 h2 => ?_⟩
  · by_cases e : j = i
    · subst e
      rw [List.getElem?_set_self (by rw [h.len]; exact hi)] at h1
      rw [List.getElem?_set_self hi] at h2
      cases h1
      cases h2
      exact owns_stc hown (owns_ne_ty hown hrow.ty (by decide))
    · rw [List.getElem?_set_ne (Ne.symm e)] at h1 h2
      have o := (h.own j u g h1 h2).kept hg (h.ap j i u v e h1 hv)
      exact owns_stc o (owns_ne_ty o hrow.ty (by decide))
  · by_cases e1 : j = i
    · subst e1
      rw [List.getElem?_set_self (by rw [h.len]; exact hi)] at h1
      rw [List.getElem?_set_ne hjk] at h2
      cases h1
      rcases hloc with q | ⟨m, q, hm⟩
      · rw [q]; exact h.ap j k v x hjk hv h2
      · refine .inr ?_
        rw [q]
        intro e
        obtain ⟨g, hgk⟩ : ∃ g, gs[k]? = some g := by
          have : k < gs.length := by rw [← h.len]; exact (List.getElem?_eq_some_iff.1 h2).1
          exact ⟨_, List.getElem?_eq_getElem this⟩
        have := ((h.own k x g h2 hgk).lt m e.symm).2
        omega
    · rw [List.getElem?_set_ne (Ne.symm e1)] at h1
      by_cases e2 : k = i
      · subst e2
        rw [List.getElem?_set_self (by rw [h.len]; exact hi)] at h2
        cases h2
        rcases hloc with q | ⟨m, q, hm⟩
        · rw [q]; exact h.ap j k u v hjk h1 hv
        · rcases h.ap j k u v hjk h1 hv with z | z
          · exact .inl z
          · cases hz : u.ownBlock with
            | none => exact .inl rfl
            | some g0 =>
              refine .inr ?_
              rw [q]
              intro e
              injection e with e
              obtain ⟨g, hgk⟩ : ∃ g, gs[j]? = some g := by
                have : j < gs.length := by rw [← h.len]; exact (List.getElem?_eq_some_iff.1 h1).1
                exact ⟨_, List.getElem?_eq_getElem this⟩
              have := ((h.own j u g h1 hgk).lt g0 hz).2
              omega
      · rw [List.getElem?_set_ne (Ne.symm e2)] at h2
        exact h.ap j k u x hjk h1 h2
theorem GAt.new {base : Nat} {w : World} {GB n : Nat} (h : Row w GB 38 (List.replicate n (.slice none 0 0))) : GAt base w GB (List.replicate n (.slice none 0 0)) (List.replicate n []) := by
  refine ⟨by simp, h, fun i v g h1 h2 => ?_, fun i j u v _ h1 _ => .inl ?_⟩
  · rw [List.getElem?_replicate] at h1 h2
    split at h1
    · cases h1; rename_i q; rw [if_pos q] at h2; cases h2; exact World.ownsRow_nil _ _ _ _
    · cases h1
  · rw [List.getElem?_replicate] at h1
    split at h1
    · cases h1; rfl
    · cases h1
end Go.Proofs.Ytdjhnfopdlgliaa

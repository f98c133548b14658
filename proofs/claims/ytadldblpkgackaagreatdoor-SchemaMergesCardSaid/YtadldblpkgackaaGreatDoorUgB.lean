/- Schemas of the call's own beside a tape that moves; what grow.Schemas gives. -/
import Derived.Test.YtadldblpkgackaaGreatDoorUgA
import Derived.Test.YtadldblpkgackaaGreatDoorUcB
set_option linter.unusedVariables false
set_option linter.unusedSimpArgs false
namespace Go.Proofs.YtadldblpkgackaaGreatDoor
open Go.RowKit
open Classical

theorem Mv.gb {w w' : World} {b len : Nat} (h : Mv b len w w') : w.grownBy w' (some b) := by
  obtain ⟨p, h0, h1, hg⟩ := h
  have k := hg.below
  refine ⟨k.os, k.tape, k.output, by have := k.size; rwa [size_set] at this, fun i hi hne => ?_⟩
  rw [k.block i (by rw [size_set]; exact hi)]
  have : b ≠ i := fun e => hne (by rw [e])
  simp [World.setCell, Array.getElem?_modify, this]
theorem own_ne {w : World} {base e size n b : Nat} {v : Value} {xs : List Value} (h : w.ownsRow base e size v n xs) (hb : b < base) : v.ownBlock = none ∨ v.ownBlock ≠ some b := by
  cases hz : v.ownBlock with
  | none => exact .inl rfl
  | some g => exact .inr fun e => by have := (h.lt g hz).1; injection e with e; omega
theorem WAt.mv {w w' : World} {b len : Nat} {a : Option Addr} {l : List St} (h : WAt w a l) (hm : Mv b len w w') (ha : ∀ A, a = some A → b < A.block) : WAt w' a l :=
  h.imp id (fun ⟨B, o, vs, h1, h2, h3⟩ => ⟨B, o, vs, h1, hm.row h2 (by have := ha _ h1; simp only at this; omega), h3⟩)
/-- The words lie behind base. -/
def HiW (base : Nat) (rs : List RM) : Prop := ∀ x ∈ rs, ∀ A, x.a = some A → base ≤ A.block
theorem RlsAt.mv {base : Nat} {w w' : World} {b len : Nat} {s : SM} (h : RlsAt base w s) (hi : HiW base s.rs) (hb : b < base) (hm : Mv b len w w') : RlsAt base w' s :=
  ⟨h.own.kept hm.gb (own_ne h.own hb), fun x hx => (h.wds x hx).mv hm (fun A e => Nat.lt_of_lt_of_le hb (hi x hx A e)), h.ok, h.len, h.cl⟩
theorem OutAt.mv {base : Nat} {w w' : World} {b len : Nat} {v : Value} {out : List SM} (h : OutAt base w v out) (hi : ∀ s ∈ out, HiW base s.rs) (hb : b < base) (hm : Mv b len w w') : OutAt base w' v out :=
  ⟨h.own.kept hm.gb (own_ne h.own hb), fun s hs => (h.rls s hs).mv (hi s hs) hb hm, h.ap, h.len⟩
theorem RlsAt.kep {base : Nat} {w w' : World} {B : Nat} {s : SM} (h : RlsAt base w s) (hg : w.grownBy w' (some B)) (ht : Ty w B 24) : RlsAt base w' s :=
  h.kept hg (fun C hC e => hC.apart ht (by decide) (Option.some.inj e)) (by
    cases hz : s.v.ownBlock with
    | none => exact .inl rfl
    | some g => exact .inr fun e => (owns_ty h.own hz).apart ht (by decide) (Option.some.inj e))
theorem OutAt.kep {base : Nat} {w w' : World} {B : Nat} {v : Value} {out : List SM} (h : OutAt base w v out) (hg : w.grownBy w' (some B)) (ht : Ty w B 24) (hv : v.ownBlock = none ∨ v.ownBlock ≠ some B) : OutAt base w' v out :=
  ⟨h.own.kept hg hv, fun s hs => (h.rls s hs).kep hg ht, h.ap, h.len⟩
/-- One more schema that has its rules. -/
theorem OutAt.snoc2 {base : Nat} {w w' : World} {v v' : Value} {out : List SM} {s : SM} (h : OutAt base w v out) (hl : out.length < 24) (hg : w.grownBy w' v.ownBlock) (ho : w'.ownsRow base 24 3 v' (out.length + 1) (out.flatMap SM.enc ++ s.enc))
    (hs : RlsAt base w s) (hap : ∀ i (hi : i < out.length), out[i].v.ownBlock = none ∨ out[i].v.ownBlock ≠ s.v.ownBlock) : OutAt base w' v' (out ++ [s]) := by
  have hap2 : ∀ i (hi : i < out.length), s.v.ownBlock = none ∨ s.v.ownBlock ≠ out[i].v.ownBlock := fun i hi => by
    cases hz : s.v.ownBlock with
    | none => exact .inl rfl
    | some g => exact .inr (fun e => (hap i hi).elim (fun q => by rw [← e] at q; cases q) (fun q => q (by rw [hz, e])))
  refine ⟨by rw [List.length_append, List.flatMap_append, List.flatMap_cons, List.flatMap_nil, List.append_nil]; exact ho, fun t ht => ?_, fun i j hi hj hij => ?_, by rw [List.length_append]; simp; omega⟩
  · rcases List.mem_append.1 ht with ht | ht
    · exact (h.rls t ht).kept hg (ty_ne_owns h.own (by decide)) (owns_ne (h.rls t ht).own h.own (by decide))
    · rw [List.mem_singleton.1 ht]
      exact hs.kept hg (ty_ne_owns h.own (by decide)) (owns_ne hs.own h.own (by decide))
  · rw [List.length_append] at hi hj
    simp only [List.length_cons, List.length_nil] at hi hj
    by_cases i0 : i < out.length
    · rw [List.getElem_append_left i0]
      by_cases j0 : j < out.length
      · rw [List.getElem_append_left j0]
        exact h.ap i j i0 j0 hij
      · rw [List.getElem_append_right (by omega)]
        simp only [show j - out.length = 0 by omega, List.getElem_cons_zero]
        exact hap i i0
    · have j0 : j < out.length := by omega
      rw [List.getElem_append_right (by omega), List.getElem_append_left j0]
      simp only [show i - out.length = 0 by omega, List.getElem_cons_zero]
      exact hap2 j j0
/-! Insertion into ascending names. -/
def compsL : List St := [[97, 44, 120], [98], [99, 44, 100, 101, 118], [102, 105, 120, 101, 100, 45, 99, 108, 111, 99, 107]]
theorem props_tot : propsL.all (fun a => propsL.all (fun c => ltS a c || (decide (a = c) || ltS c a))) = true := by kernel_rfl
theorem prop_tot {a c : St} (ha : a ∈ propsL) (hc : c ∈ propsL) (h1 : ltS a c = false) (h2 : a ≠ c) : ltS c a = true := by
  have := List.all_eq_true.1 (List.all_eq_true.1 props_tot a ha) c hc
  simp [h1, h2] at this
  exact this
theorem asc_put {l : List St} {x : St} {k : Nat} (hl : ascN l = true) (hk : k ≤ l.length) (hlow : ∀ j (hj : j < k) (hjl : j < l.length), ltS l[j] x = true) (hup : ∀ (h : k < l.length), ltS x l[k] = true) : ascN (l.take k ++ x :: l.drop k) = true := by
  rw [ascN_iff] at hl ⊢
  intro i hi
  have hlen : (l.take k).length = k := by rw [List.length_take]; omega
  rw [List.length_append, hlen, List.length_cons, List.length_drop] at hi
  by_cases h1 : i + 1 < k
  · rw [List.getElem_append_left (by rw [hlen]; omega), List.getElem_append_left (by rw [hlen]; omega), List.getElem_take, List.getElem_take]
    exact hl i (by omega)
  · by_cases h2 : i + 1 = k
    · rw [List.getElem_append_left (by rw [hlen]; omega), List.getElem_append_right (by rw [hlen]; omega), List.getElem_take]
      simp only [hlen, show i + 1 - k = 0 by omega, List.getElem_cons_zero]
      exact hlow i (by omega) (by omega)
    · by_cases h3 : i = k
      · subst h3
        rw [List.getElem_append_right (by rw [hlen]; omega), List.getElem_append_right (by rw [hlen]; omega)]
        simp only [hlen, Nat.sub_self, List.getElem_cons_zero, show i + 1 - i = 1 by omega, List.getElem_cons_succ, List.getElem_drop, Nat.add_zero]
        exact hup (by omega)
      · rw [List.getElem_append_right (by rw [hlen]; omega), List.getElem_append_right (by rw [hlen]; omega)]
        obtain ⟨j, rfl⟩ : ∃ j, i = k + 1 + j := ⟨i - k - 1, by omega⟩
        simp only [hlen, show k + 1 + j - k = j + 1 by omega, show k + 1 + j + 1 - k = j + 1 + 1 by omega, List.getElem_cons_succ, List.getElem_drop]
        have := hl (k + j) (by omega)
        simpa only [show k + (j + 1) = k + j + 1 by omega] using this
/-- A schema as grow.Schemas makes it. -/
structure GoodS (base : Nat) (s : SM) : Prop where
  hi : HiW base s.rs
  asc : ascN (s.rs.map (fun x => x.r.name)) = true
  nam : ∀ x ∈ s.rs, x.r.name ∈ propsL
  few : s.rs.length ≤ 3
/-- What grow.Schemas gives. -/
def GivesSch (b len : Nat) (w : World) (e : Ending) (w' : World) : Prop :=
  ∃ v out, e = .returned v ∧ OutAt w.heap.size w' v out ∧ (out.map SM.comp).Sublist compsL ∧ (∀ s ∈ out, GoodS w.heap.size s) ∧ Mv b len w w'
end Go.Proofs.YtadldblpkgackaaGreatDoor

/- Contracts of the searches of tuning.Check: the index of a leaf's limit; whether all branches are named. -/
import Derived.Test.YtenehghpmnajpaaDoorKz
set_option linter.unusedVariables false
set_option linter.unusedSimpArgs false
namespace Go.Proofs.YtenehghpmnajpaaDoor
open Go.RowKit
open Classical

theorem wGr_gb {w w' : World} (h : Gr w w') (row : Option Nat) : w.grownBy w' row := ⟨h.below.os, h.below.tape, h.below.output, h.size, fun k hk _ => h.below.block k hk⟩
set_option maxHeartbeats 400000 in
theorem indexB_any (xs : List Bool) (a : Option Addr) (cap : Nat) (x : Bool) (w : World) (hx : SlOf 1 RB w a xs) (fx : Fit xs.length) :
    Calls Tryd.prog 112 #[.slice a xs.length cap, .bool x] w fun e w' => ∃ y : Int, e = .returned (.int .i64 y) ∧ (0 ≤ y ↔ x ∈ xs) ∧ w = w' := by
  unfold Fit at fx
  have HX := Lib.hid hx
  clear hx
  go_enter Tryd.func112, Tryd.ntmps112
  go_wp2
  go_loop [8] (fun i => ∃ k : Nat, k ≤ xs.length ∧ i = .int .i64 k ∧ (∀ j (h : j < xs.length), j < k → xs[j] ≠ x)) (fun i => xs.length - (intOf i).toNat)
  case atStart => exact ⟨0, Nat.zero_le _, rfl, fun j _ h => absurd h (by omega)⟩
  case round =>
    obtain ⟨k, hk, rfl, hall⟩ := hrel
    have HA := Lib.hid hall
    clear hall
    by_cases hlt : k < xs.length
    · obtain ⟨bx, ox, rfl, c1⟩ := HX.out.one k hlt
      by_cases he : xs[k] = x
      · have heb : (x == xs[k]) = true := by simp [he]
        have HE := Lib.hid he
        clear he
        unfold RB at c1
        go_wp2
        go_ret
        exact ⟨k, rfl, ⟨fun _ => by rw [← HE.out]; exact List.getElem_mem hlt, fun _ => by omega⟩, rfl⟩
      · have heb : (x == xs[k]) = false := by simp; exact fun q => he q.symm
        have HE := Lib.hid he
        clear he
        unfold RB at c1
        go_wp2
        go_round
        case rel =>
          refine ⟨k + 1, by omega, by go_num, fun j h1 hj => ?_⟩
          by_cases e : j = k
          · subst e; exact HE.out
          · exact HA.out j h1 (by omega)
        case measure => simp [intOf]; omega
    · go_wp2
      go_ret
      refine ⟨-1, rfl, ⟨fun h => by omega, fun hm => ?_⟩, rfl⟩
      obtain ⟨j, hj, e⟩ := List.getElem_of_mem hm
      exact absurd e (HA.out j hj (by omega))
theorem containsB_any (xs : List Bool) (a : Option Addr) (cap : Nat) (x : Bool) (w : World) (hx : SlOf 1 RB w a xs) (fx : Fit xs.length) :
    Calls Tryd.prog 81 #[.slice a xs.length cap, .bool x] w fun e w' => e = .returned (.bool (decide (x ∈ xs))) ∧ w = w' := by
  have HX := Lib.hid hx
  have FX := Lib.hid fx
  clear hx fx
  go_enter Tryd.func81, Tryd.ntmps81
  go_wp2_with fail
  refine (indexB_any xs a cap x w HX.out FX.out).mono ?_
  rintro e w' ⟨y, rfl, hy, rfl⟩
  have HY := Lib.hid hy
  clear hy
  go_wp2_with fail
  go_ret
  exact ⟨ret_bool (by rw [decide_eq_decide]; exact HY.out), rfl⟩
set_option maxHeartbeats 400000 in
theorem idEq_any (x : Bnd) (lim : Int) (X : Nat) (w : World) (c : w.cell? ⟨X, 0, none⟩ = some (.int .i64 lim)) :
    Calls Tryd.prog 78 #[.agg #[.int .i64 x.index, .int .i64 x.clock, .int .i64 x.low, .int .i64 x.high, .bool x.idle], .pointer (some ⟨X, 0, none⟩)] w (Grows w (.bool (x.index == lim))) := by
  have hh := has_of_cell c
  go_enter Tryd.func78, Tryd.ntmps78
  go_wp2_with fail
  go_ret
  exact ⟨rfl, (Gr.refl _).alloc _⟩
/-- The place of a limit with a number. -/
def IdxOf (bs : List Bnd) (lim : Int) (y : Int) : Prop := (y = -1 ∧ ∀ b ∈ bs, b.index ≠ lim) ∨ ∃ k : Nat, y = k ∧ ∃ h : k < bs.length, bs[k].index = lim
set_option maxHeartbeats 1000000 in
theorem indexBnd_any (bs : List Bnd) (ab : Option Addr) (cb : Nat) (lim : Int) (X : Nat) (w : World) (hb : SlOf 5 RBnd w ab bs) (hl : bs.length ≤ 48) (c : w.cell? ⟨X, 0, none⟩ = some (.int .i64 lim)) :
    Calls Tryd.prog 77 #[.slice ab bs.length cb, .func (.func 78) #[] #[.pointer (some ⟨X, 0, none⟩)]] w fun e w' => ∃ y : Int, e = .returned (.int .i64 y) ∧ IdxOf bs lim y ∧ Gr w w' := by
  have HB := Lib.hid hb
  have HC := Lib.hid c
  clear hb c
  go_enter Tryd.func77, Tryd.ntmps77
  go_wp2
  go_loopw [8] (fun i wr => ∃ k : Nat, k ≤ bs.length ∧ i = .int .i64 k ∧ (∀ j (h : j < bs.length), j < k → bs[j].index ≠ lim) ∧ Gr w wr) (fun i _ => bs.length - (intOf i).toNat)
  case atStart => exact ⟨0, Nat.zero_le _, rfl, fun j _ h => absurd h (by omega), Gr.refl _⟩
  case round =>
    obtain ⟨k, hk, rfl, hall, hg⟩ := hrel
    have HA := Lib.hid hall
    have HG := Lib.hid hg
    clear hall hg
    obtain ⟨wo, rfl⟩ : ∃ wo : World, wo = wr := ⟨_, rfl⟩
    by_cases hlt : k < bs.length
    · obtain ⟨b, o, rfl, d0, d1, d2, d3, d4⟩ := (HB.out.gr RBnd.mono HG.out) k hlt
      have hcall := Lib.hid (idEq_any bs[k] lim X wo (cell_gr HG.out HC.out))
      have hh := has_of_cell d0
      have k2 : (k : Int) < bs.length := by omega
      by_cases hq : bs[k].index = lim
      · have hcall' := Lib.hid hcall.out
        rw [show (bs[k].index == lim) = true by simp [hq]] at hcall'
        have Q := Lib.hid hq
        clear hq hcall
        go_wp2_with fail
        refine hcall'.out.mono ?_
        rintro e w' ⟨rfl, hg'⟩
        have G' := Lib.hid (HG.out.trans hg')
        clear hg'
        go_wp2_with fail
        go_ret
        exact ⟨k, rfl, .inr ⟨k, rfl, hlt, Q.out⟩, G'.out⟩
      · have hcall' := Lib.hid hcall.out
        rw [show (bs[k].index == lim) = false by simp [hq]] at hcall'
        have Q := Lib.hid hq
        clear hq hcall
        go_wp2_with fail
        refine hcall'.out.mono ?_
        rintro e w' ⟨rfl, hg'⟩
        have G' := Lib.hid (HG.out.trans hg')
        clear hg'
        go_wp2_with fail
        go_roundw
        case rel =>
          refine ⟨k + 1, by omega, by go_num, fun j h1 hj => ?_, G'.out⟩
          by_cases e : j = k
          · subst e; exact Q.out
          · exact HA.out j h1 (by omega)
        case measure => simp [intOf]; omega
    · go_wp2_with fail
      go_ret
      refine ⟨-1, rfl, .inl ⟨rfl, fun b hb => ?_⟩, HG.out⟩
      obtain ⟨j, hj, rfl⟩ := List.getElem_of_mem hb
      exact HA.out j hj (by omega)
/-! Numbers of limits are unique -/
theorem allB_unique {l : List Clk} {ms : List Lmt} {b b' : Bnd} (h : b ∈ allB l ms) (h' : b' ∈ allB l ms) (e : b.index = b'.index) : b = b' := by
  rcases List.mem_append.1 h with h | h <;> rcases List.mem_append.1 h' with h' | h'
  · obtain ⟨j, hj, rfl⟩ := mem_limsB.1 h
    obtain ⟨i, hi, rfl⟩ := mem_limsB.1 h'
    have : j = i := by simp only [limB] at e; omega
    subst this; rfl
  · obtain ⟨j, hj, rfl⟩ := mem_limsB.1 h
    obtain ⟨i, hi, _, rfl⟩ := mem_ownB.1 h'
    simp only [limB] at e; omega
  · obtain ⟨j, hj, _, rfl⟩ := mem_ownB.1 h
    obtain ⟨i, hi, rfl⟩ := mem_limsB.1 h'
    simp only [limB] at e; omega
  · obtain ⟨j, hj, _, rfl⟩ := mem_ownB.1 h
    obtain ⟨i, hi, _, rfl⟩ := mem_ownB.1 h'
    have : j = i := by simp only at e; omega
    subst this; rfl
theorem leaf_none {l : List Clk} {ms : List Lmt} {p : List Int} {lim : Int} (h : ∀ b ∈ allB l ms, b.index ≠ lim) : leafS l ms p lim = false := by
  unfold leafS
  rw [decide_eq_false_iff_not]
  rintro ⟨b, hb, hi, _⟩
  exact h b hb hi
def leafB (d : Dec) (b : Bnd) : Bool := match d with | .opn _ => false | .isr r => brokB b r
theorem leaf_some {l : List Clk} {ms : List Lmt} {p : List Int} {lim : Int} {k : Nat} (hk : k < (allB l ms).length) (h : (allB l ms)[k].index = lim) : leafS l ms p lim = leafB (dec l p (allB l ms)[k].clock.toNat) (allB l ms)[k] := by
  have hm := List.getElem_mem hk
  unfold leafS
  cases hd : dec l p (allB l ms)[k].clock.toNat with
  | opn f =>
    simp only [leafB]
    rw [decide_eq_false_iff_not]
    rintro ⟨b, hb, hi, r, hr, _⟩
    rw [allB_unique hb hm (by rw [hi, h]), hd] at hr
    cases hr
  | isr r =>
    simp only [leafB]
    cases hb : brokB (allB l ms)[k] r with
    | true => exact decide_eq_true ⟨_, hm, h, r, hd, hb⟩
    | false =>
      rw [decide_eq_false_iff_not]
      rintro ⟨b, hb', hi, r', hr, hb2⟩
      rw [allB_unique hb' hm (by rw [hi, h])] at hr hb2
      rw [hd] at hr
      injection hr with hr
      rw [← hr, hb] at hb2; cases hb2
end Go.Proofs.YtenehghpmnajpaaDoor

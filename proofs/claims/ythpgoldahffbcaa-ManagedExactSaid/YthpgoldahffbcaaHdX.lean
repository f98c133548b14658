/- slices.Index and ContainsFunc over holds; managed.Drop. -/
import Derived.Test.YthpgoldahffbcaaHdG
import Derived.Test.YthpgoldahffbcaaHdP
import Derived.Outline
set_option linter.unusedVariables false
set_option linter.unusedSimpArgs false
namespace Go.Proofs.Ythpgoldahffbcaa
open Go.RowKit
/-- The place of a hold. -/
def ixO (l : List Hld) (x : Hld) : Option Nat := l.findIdx? (fun y => decide (y = x))
def ixI : Option Nat → Int
  | some i => i
  | none => -1
theorem ix_some {l : List Hld} {x : Hld} {k : Nat} (hk : k < l.length) (he : l[k] = x) (ha : ∀ j (hj : j < l.length), j < k → l[j] ≠ x) : ixO l x = some k := by
  rw [ixO, List.findIdx?_eq_some_iff_getElem]
  exact ⟨hk, by simp [he], fun j hj => by simpa using ha j (by omega) hj⟩
theorem ix_none {l : List Hld} {x : Hld} (ha : ∀ j (hj : j < l.length), l[j] ≠ x) : ixO l x = none := by
  rw [ixO, List.findIdx?_eq_none_iff]
  intro y hy
  obtain ⟨j, hj, rfl⟩ := List.getElem_of_mem hy
  simpa using ha j hj
theorem ix_lt {l : List Hld} {x : Hld} {k : Nat} (h : ixO l x = some k) : k < l.length := by
  rw [ixO, List.findIdx?_eq_some_iff_getElem] at h
  exact h.1
set_option maxHeartbeats 1000000 in
theorem index_any (l : List Hld) (x : Hld) (ao : Option Addr) (cap : Nat) (w : World) (h : SlOf 3 RHld w ao l) (hf : Fit l.length) :
    Calls Try.prog 37 #[.slice ao l.length cap, .agg #[.int .i64 x.device, .int .i64 x.kind, .int .i64 x.unit]] w (Grows w (.int .i64 (ixI (ixO l x)))) := by
  unfold Fit at hf
  have H := Lib.hid h
  clear h
  go_enter Try.func37, Try.ntmps37
  go_wp2_with fail
  obtain ⟨W0, hW0⟩ : ∃ W0 : World, Hid (W0 = w.alloc (.cells #[.int .i64 x.device, .int .i64 x.kind, .int .i64 x.unit] 34)) := ⟨_, Lib.hid rfl⟩
  have G0 : Hid (Gr w W0) := Lib.hid (by rw [hW0.out]; exact (Gr.refl _).alloc _)
  have R0 : Hid (Row W0 w.heap.size 34 [.int .i64 x.device, .int .i64 x.kind, .int .i64 x.unit]) := Lib.hid (by rw [hW0.out]; exact Row.new w _ _)
  rw [← hW0.out]
  clear hW0
  go_loopw [8] (fun i wr => ∃ k : Nat, k ≤ l.length ∧ i = .int .i64 k ∧ (∀ j (hj : j < l.length), j < k → l[j] ≠ x) ∧ Gr W0 wr) (fun i _ => l.length - (intOf i).toNat)
  case atStart => exact ⟨0, Nat.zero_le _, rfl, fun j _ h => absurd h (by omega), Gr.refl _⟩
  case round =>
    obtain ⟨k, hk, rfl, hall, hg⟩ := hrel
    have HA := Lib.hid hall
    have HG := Lib.hid hg
    have e0 := (R0.out.gr hg).cell 0 (by simp)
    have e1 := (R0.out.gr hg).cell 1 (by simp)
    have e2 := (R0.out.gr hg).cell 2 (by simp)
    have eh := (R0.out.gr hg).has
    simp only [List.getElem_cons_zero, List.getElem_cons_succ] at e0 e1 e2
    clear hall hg
    by_cases hlt : k < l.length
    · obtain ⟨b, o, rfl, ⟨c0, -⟩, ⟨c1, -⟩, ⟨c2, -⟩⟩ := (hlds_gr H.out (G0.out.trans HG.out)) k hlt
      have ch := has_of_cell c0
      have k0 : (0 : Int) ≤ k := by omega
      have k1 : (k : Int) < l.length := by omega
      obtain ⟨y, hy⟩ : ∃ y, Hid (y = l[k]) := ⟨_, Lib.hid rfl⟩
      rw [← hy.out] at c0 c1 c2
      have hn := eql_hold x.device x.kind x.unit y.device y.kind y.unit
      by_cases he : y = x
      · have hb : (x.device == y.device && x.kind == y.kind && x.unit == y.unit) = true := by subst he; simp
        have IS : Hid (ixO l x = some k) := Lib.hid (ix_some hlt (by rw [← hy.out]; exact he) HA.out)
        rw [hb] at hn
        clear hb he
        go_wp2_with fail
        refine wp_region_grows (by kernel_rfl) (by kernel_rfl) ?_
        repeat (go_big_quiet_step (fail))
        refine wpQuiet_nil ?_
        rintro _ ⟨⟨O5, d5⟩, rfl⟩
        go_wp2_with fail
        go_ret
        rw [IS.out]
        exact ⟨rfl, (G0.out.trans HG.out).trans (by repeat (first | with_reducible exact Gr.refl _ | with_reducible refine Gr.alloc _ ?_ | with_reducible refine Gr.xt _ _ ?_ | with_reducible refine Gr.drew ?_))⟩
      · have hb : (x.device == y.device && x.kind == y.kind && x.unit == y.unit) = false := by
          cases hq : (x.device == y.device && x.kind == y.kind && x.unit == y.unit) with
          | false => rfl
          | true =>
            exfalso; apply he
            simp at hq
            cases x; cases y; simp_all
        have NE : Hid (l[k] ≠ x) := Lib.hid (by rw [← hy.out]; exact he)
        rw [hb] at hn
        clear hb he
        go_wp2_with fail
        refine wp_region_grows (by kernel_rfl) (by kernel_rfl) ?_
        repeat (go_big_quiet_step (fail))
        refine wpQuiet_nil ?_
        rintro _ ⟨⟨O5, d5⟩, rfl⟩
        go_wp2_with fail
        go_roundw
        case rel =>
          refine ⟨k + 1, by omega, by go_num, fun j hj hjk => ?_, HG.out.trans (by repeat (first | with_reducible exact Gr.refl _ | with_reducible refine Gr.alloc _ ?_ | with_reducible refine Gr.xt _ _ ?_ | with_reducible refine Gr.drew ?_))⟩
          by_cases e : j = k
          · subst e; exact NE.out
          · exact HA.out j hj (by omega)
        case measure => simp [intOf]; omega
    · have IS : Hid (ixO l x = none) := Lib.hid (ix_none fun j hj => HA.out j hj (by omega))
      go_wp2_with fail
      go_ret
      rw [IS.out]
      exact ⟨rfl, G0.out.trans HG.out⟩
theorem drop1_any (x : Hld) (dv : Int) (q : Nat) (w : World) (hq : w.cell? ⟨q, 0, none⟩ = some (.int .i64 dv)) :
    Calls Try.prog 39 #[.agg #[.int .i64 x.device, .int .i64 x.kind, .int .i64 x.unit], .pointer (some ⟨q, 0, none⟩)] w (Grows w (.bool (x.device == dv))) := by
  have hh := has_of_cell hq
  go_enter Try.func39, Try.ntmps39
  go_wp2_with fail
  go_ret
  exact ⟨rfl, (by repeat (first | with_reducible exact Gr.refl _ | with_reducible refine Gr.alloc _ ?_ | with_reducible refine Gr.xt _ _ ?_ | with_reducible refine Gr.drew ?_))⟩
/-- Whether one of the holds is of a device: -1 or a place. -/
def AnyIs (l : List Hld) (dv : Int) (y : Int) : Prop := -1 ≤ y ∧ y < l.length ∧ (0 ≤ y ↔ l.any (fun x => x.device == dv) = true)
def GivesAny (w : World) (l : List Hld) (dv : Int) (e : Ending) (w' : World) : Prop := ∃ y, e = .returned (.int .i64 y) ∧ AnyIs l dv y ∧ Gr w w'
set_option maxHeartbeats 1000000 in
theorem indexD_any (q : Nat) (dv : Int) (l : List Hld) (ao : Option Addr) (cap : Nat) (w : World) (h : SlOf 3 RHld w ao l) (hf : Fit l.length) (hq : w.cell? ⟨q, 0, none⟩ = some (.int .i64 dv)) :
    Calls Try.prog 44 #[.slice ao l.length cap, .func (.func 39) #[] #[.pointer (some ⟨q, 0, none⟩)]] w (GivesAny w l dv) := by
  unfold Fit at hf
  have H := Lib.hid h
  have HQ := Lib.hid hq
  clear h hq
  go_enter Try.func44, Try.ntmps44
  go_wp2_with fail
  go_loopw [8] (fun i wr => ∃ k : Nat, k ≤ l.length ∧ i = .int .i64 k ∧ (∀ j (hj : j < l.length), j < k → (l[j].device == dv) = false) ∧ Gr w wr) (fun i _ => l.length - (intOf i).toNat)
  case atStart => exact ⟨0, Nat.zero_le _, rfl, fun j _ h => absurd h (by omega), Gr.refl _⟩
  case round =>
    obtain ⟨k, hk, rfl, hall, hg⟩ := hrel
    have HA := Lib.hid hall
    have HG := Lib.hid hg
    clear hall hg
    by_cases hlt : k < l.length
    · obtain ⟨b, o, rfl, ⟨c0, -⟩, ⟨c1, -⟩, ⟨c2, -⟩⟩ := (hlds_gr H.out HG.out) k hlt
      have ch := has_of_cell c0
      have k0 : (0 : Int) ≤ k := by omega
      have k1 : (k : Int) < l.length := by omega
      obtain ⟨y, hy⟩ : ∃ y, Hid (y = l[k]) := ⟨_, Lib.hid rfl⟩
      rw [← hy.out] at c0 c1 c2
      go_wp2_with fail
      refine (drop1_any y dv q _ (cell_gr (HG.out.trans (by repeat (first | with_reducible exact Gr.refl _ | with_reducible refine Gr.alloc _ ?_ | with_reducible refine Gr.xt _ _ ?_ | with_reducible refine Gr.drew ?_))) HQ.out)).mono ?_
      rintro e W1 ⟨rfl, hg1⟩
      have G1 := Lib.hid (HG.out.trans hg1)
      clear hg1
      cases hb : (y.device == dv) with
      | true =>
        have AN : Hid (l.any (fun x => x.device == dv) = true) := Lib.hid (List.any_eq_true.2 ⟨l[k], List.getElem_mem hlt, by rw [← hy.out]; exact hb⟩)
        clear hb
        go_wp2_with fail
        go_ret
        exact ⟨k, rfl, ⟨by omega, by omega, fun _ => AN.out, fun _ => by omega⟩, G1.out⟩
      | false =>
        have NB : Hid ((l[k].device == dv) = false) := Lib.hid (by rw [← hy.out]; exact hb)
        clear hb
        go_wp2_with fail
        go_roundw
        case rel =>
          refine ⟨k + 1, by omega, by go_num, fun j hj hjk => ?_, G1.out⟩
          by_cases e : j = k
          · subst e; exact NB.out
          · exact HA.out j hj (by omega)
        case measure => simp [intOf]; omega
    · have AN : Hid (¬ l.any (fun x => x.device == dv) = true) := Lib.hid (by
        rw [List.any_eq_true]
        rintro ⟨y, hy, q⟩
        obtain ⟨j, hj, rfl⟩ := List.getElem_of_mem hy
        rw [HA.out j hj (by omega)] at q
        cases q)
      go_wp2_with fail
      go_ret
      exact ⟨-1, rfl, ⟨by omega, by omega, fun q => by omega, fun q => absurd q AN.out⟩, HG.out⟩
theorem containsD_any (q : Nat) (dv : Int) (l : List Hld) (ao : Option Addr) (cap : Nat) (w : World) (h : SlOf 3 RHld w ao l) (hf : Fit l.length) (hq : w.cell? ⟨q, 0, none⟩ = some (.int .i64 dv)) :
    Calls Try.prog 38 #[.slice ao l.length cap, .func (.func 39) #[] #[.pointer (some ⟨q, 0, none⟩)]] w (Grows w (.bool (l.any (fun x => x.device == dv)))) := by
  have H := Lib.hid h
  have HQ := Lib.hid hq
  have HF := Lib.hid hf
  unfold Fit at hf
  clear h hq
  go_enter Try.func38, Try.ntmps38
  go_wp2_with fail
  refine (indexD_any q dv l ao cap _ H.out HF.out HQ.out).mono ?_
  rintro e W1 ⟨y, rfl, hy, hg⟩
  have HY := Lib.hid hy.2.2
  have y1 := hy.1
  have y2 := hy.2.1
  have HG := Lib.hid hg
  clear hy hg
  go_wp2_with fail
  go_ret
  refine ⟨ret_bool ?_, HG.out⟩
  have := HY.out
  cases hb : l.any (fun x => x.device == dv) with
  | true => rw [hb] at this; simpa using this
  | false => rw [hb] at this; simp at this ⊢; omega
end Go.Proofs.Ythpgoldahffbcaa

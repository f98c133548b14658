/- schema.Check. -/
import Derived.Test.YtadldblpkgackaaGreatDoorUcA
set_option linter.unusedVariables false
set_option linter.unusedSimpArgs false
namespace Go.Proofs.YtadldblpkgackaaGreatDoor
open Go.RowKit
open Classical

theorem chk_big {l : List Sch} (h : 24 < l.length) : chkSch l = 3 := by unfold chkSch; rw [if_pos (.inl h)]
theorem chk_rls {l : List Sch} (h : l.any (fun y => decide (16 < y.rules.length)) = true) : chkSch l = 3 := by unfold chkSch; rw [if_pos (.inr h)]
def badS (s : Sch) : Bool := !visP s.comp || s.rules.any (fun r => !ruleP r)
def ordS (s : Sch) : Bool := !ascN (s.rules.map Rul.name)
def FitS (l : List Sch) : Prop := ¬ 24 < l.length ∧ l.any (fun y => decide (16 < y.rules.length)) = false
theorem chk_bad {l : List Sch} (h : FitS l) {k : Nat} (hk : k < l.length) (q : badS l[k] = true) : chkSch l = 1 := by
  unfold chkSch
  rw [if_neg (by rw [h.2]; intro z; rcases z with z | z; exact h.1 z; cases z), if_pos]
  rw [List.any_eq_true]
  exact ⟨_, List.getElem_mem hk, q⟩
theorem chk_ord {l : List Sch} (h : FitS l) (hb : ∀ j (h : j < l.length), badS l[j] = false) {k : Nat} (hk : k < l.length) (q : ordS l[k] = true) : chkSch l = 12 := by
  unfold chkSch
  rw [if_neg (by rw [h.2]; intro z; rcases z with z | z; exact h.1 z; cases z), if_neg, if_pos]
  · rw [List.any_eq_true]
    exact ⟨_, List.getElem_mem hk, q⟩
  · rw [List.any_eq_true]
    rintro ⟨x, hx, e⟩
    obtain ⟨j, hj, rfl⟩ := List.getElem_of_mem hx
    have := hb j hj
    unfold badS at this
    rw [this] at e; cases e
theorem chk_end {l : List Sch} (h : FitS l) (hb : ∀ j (h : j < l.length), badS l[j] = false) (ho : ∀ j (h : j < l.length), ordS l[j] = false) : chkSch l = if ascN (l.map Sch.comp) = true then 0 else 12 := by
  unfold chkSch
  rw [if_neg (by rw [h.2]; intro z; rcases z with z | z; exact h.1 z; cases z), if_neg, if_neg]
  · rw [List.any_eq_true]
    rintro ⟨x, hx, e⟩
    obtain ⟨j, hj, rfl⟩ := List.getElem_of_mem hx
    have := ho j hj
    unfold ordS at this
    rw [this] at e; cases e
  · rw [List.any_eq_true]
    rintro ⟨x, hx, e⟩
    obtain ⟨j, hj, rfl⟩ := List.getElem_of_mem hx
    have := hb j hj
    unfold badS at this
    rw [this] at e; cases e
theorem SlOf.giC {w w' : World} {a : Option Addr} {l : List Sch} (h : SlOf 3 RSch w a l) (hg : Gr w w') : SlOf 3 RSch w' a l := h.gr RSch.mono hg
theorem SlOf.giU {w w' : World} {a : Option Addr} {l : List Rul} (h : SlOf 7 RRul w a l) (hg : Gr w w') : SlOf 7 RRul w' a l := h.gr RRul.mono hg
set_option maxRecDepth 100000 in
set_option maxHeartbeats 8000000 in
theorem check_any (l : List Sch) (a : Option Addr) (cap : Nat) (w : World) (h : SlOf 3 RSch w a l) (hf : l.length ≤ 1000000) (hb : ∀ s ∈ l, SmlS s) :
    Calls Tryz.prog 11 #[.slice a l.length cap] w (Grows w (.int .i64 (chkSch l))) := by
  have H := Lib.hid h
  have HB := Lib.hid hb
  clear h hb
  go_enter Tryz.func11, Tryz.ntmps11
  by_cases h24 : 24 < l.length
  · have R := Lib.hid (chk_big h24)
    have hi : (24 : Int) < l.length := by omega
    clear h24
    go_wp2_with fail
    go_ret
    exact ⟨by rw [R.out]; rfl, Gr.refl _⟩
  · cases hz : l.any (fun y => decide (16 < y.rules.length)) with
    | true =>
      have R := Lib.hid (chk_rls hz)
      go_wp2_with fail
      refine (conK1_any l a cap w H.out hf HB.out).mono ?_
      rintro e w1 ⟨rfl, O, d, rfl⟩
      rw [hz]
      clear hz
      go_wp2_with fail
      go_ret
      exact ⟨by rw [R.out]; rfl, (Gr.refl _).xt _ _⟩
    | false =>
      have F : Hid (FitS l) := Lib.hid ⟨h24, hz⟩
      go_wp2_with fail
      refine (conK1_any l a cap w H.out hf HB.out).mono ?_
      rintro e w1 ⟨rfl, hg⟩
      rw [hz]
      have G1 := Lib.hid hg
      have hi : ¬ (24 : Int) < l.length := by omega
      clear hz hg h24
      go_wp2_with fail
      go_loopw [16] (fun i wr => ∃ k : Nat, k ≤ l.length ∧ i = .int .i64 k ∧ (∀ j (hj : j < k) (hjl : j < l.length), badS l[j] = false) ∧ Gr w wr) (fun i _ => l.length - (intOf i).toNat)
      case atStart => exact ⟨0, Nat.zero_le _, rfl, fun j h => absurd h (by omega), G1.out⟩
      case round =>
        clear G1
        obtain ⟨k, hk, rfl, hall, hg⟩ := hrel
        have HA := Lib.hid hall
        have HG := Lib.hid hg
        clear hall hg
        by_cases hlt : k < l.length
        · obtain ⟨b, o, pa, pc, rfl, c0, c1, c2, hs⟩ := schs_at (H.out.giC HG.out) k hlt
          obtain ⟨s, hsk⟩ : ∃ s, l[k] = s := ⟨_, rfl⟩
          have HSK := Lib.hid hsk
          have hsl := HB.out l[k] (List.getElem_mem hlt)
          rw [hsk] at c0 c1 c2 hs hsl
          have HSL := Lib.hid hsl
          have hh := has_of_cell c0
          have SL := Lib.hid hs
          clear hsk hs hsl
          cases hv : visP s.comp with
          | false =>
            have R : Hid (chkSch l = 1) := Lib.hid (chk_bad F.out hlt (by rw [HSK.out]; unfold badS; rw [hv]; rfl))
            go_wp2_with (go_at_call 35; refine (vis_any s.comp _ HSL.out.1).mono ?_; rintro e w' ⟨rfl, rfl⟩; rw [hv])
            go_ret
            exact ⟨by rw [R.out]; rfl, HG.out.alloc _⟩
          | true =>
            cases hz : s.rules.any (fun r => !ruleP r) with
            | true =>
              have R : Hid (chkSch l = 1) := Lib.hid (chk_bad F.out hlt (by rw [HSK.out]; unfold badS; rw [hv, hz]; rfl))
              go_wp2_with (first | (go_at_call 35; refine (vis_any s.comp _ HSL.out.1).mono ?_; rintro e w' ⟨rfl, rfl⟩; rw [hv]) | (go_at_call 36; refine (conK2_any s.rules pa pc _ (SL.out.giU ((Gr.refl _).alloc _)) HSL.out.2.1 HSL.out.2.2).mono ?_; rintro e w' ⟨rfl, O, d, rfl⟩; rw [hz]))
              go_ret
              exact ⟨by rw [R.out]; rfl, (HG.out.alloc _).xt _ _⟩
            | false =>
              have R : Hid (badS s = false) := Lib.hid (by unfold badS; rw [hv, hz]; rfl)
              go_wp2_with (first | (go_at_call 35; refine (vis_any s.comp _ HSL.out.1).mono ?_; rintro e w' ⟨rfl, rfl⟩; rw [hv]) | (go_at_call 36; refine (conK2_any s.rules pa pc _ (SL.out.giU ((Gr.refl _).alloc _)) HSL.out.2.1 HSL.out.2.2).mono ?_; rintro e w' ⟨rfl, O, d, rfl⟩; rw [hz]))
              go_roundw
              case rel =>
                refine ⟨k + 1, by omega, by go_num, fun j hj hjl => ?_, (HG.out.alloc _).xt _ _⟩
                by_cases e : j = k
                · subst e; rw [HSK.out]; exact R.out
                · exact HA.out j (by omega) hjl
              case measure => simp [intOf]; omega
        · have BA : Hid (∀ j (h : j < l.length), badS l[j] = false) := Lib.hid (fun j h => HA.out j (by omega) h)
          clear HA
          go_wp2_with fail
          go_loopw [32] (fun i wr => ∃ k : Nat, k ≤ l.length ∧ i = .int .i64 k ∧ (∀ j (hj : j < k) (hjl : j < l.length), ordS l[j] = false) ∧ Gr w wr) (fun i _ => l.length - (intOf i).toNat)
          case atStart => exact ⟨0, Nat.zero_le _, rfl, fun j h => absurd h (by omega), HG.out⟩
          case round =>
            clear HG hk hlt
            obtain ⟨k, hk, rfl, hall, hg⟩ := hrel
            have HA := Lib.hid hall
            have HG := Lib.hid hg
            clear hall hg
            by_cases hlt : k < l.length
            · obtain ⟨b, o, pa, pc, rfl, c0, c1, c2, hs⟩ := schs_at (H.out.giC HG.out) k hlt
              obtain ⟨s, hsk⟩ : ∃ s, l[k] = s := ⟨_, rfl⟩
              have HSK := Lib.hid hsk
              have hsl := HB.out l[k] (List.getElem_mem hlt)
              rw [hsk] at c0 c1 c2 hs hsl
              have HSL := Lib.hid hsl
              have hh := has_of_cell c0
              have SL := Lib.hid hs
              clear hsk hs hsl
              cases hv : ascN (s.rules.map Rul.name) with
              | false =>
                have R : Hid (chkSch l = 12) := Lib.hid (chk_ord F.out BA.out hlt (by rw [HSK.out]; unfold ordS; rw [hv]; rfl))
                go_wp2_with (go_at_call 39; refine (ascR_any s.rules pa pc _ (SL.out.giU ((Gr.refl _).alloc _)) HSL.out.2.1).mono ?_; rintro e w' ⟨rfl, O, d, rfl⟩; rw [hv])
                go_ret
                exact ⟨by rw [R.out]; rfl, (HG.out.alloc _).xt _ _⟩
              | true =>
                have R : Hid (ordS s = false) := Lib.hid (by unfold ordS; rw [hv]; rfl)
                go_wp2_with (go_at_call 39; refine (ascR_any s.rules pa pc _ (SL.out.giU ((Gr.refl _).alloc _)) HSL.out.2.1).mono ?_; rintro e w' ⟨rfl, O, d, rfl⟩; rw [hv])
                go_roundw
                case rel =>
                  refine ⟨k + 1, by omega, by go_num, fun j hj hjl => ?_, (HG.out.alloc _).xt _ _⟩
                  by_cases e : j = k
                  · subst e; rw [HSK.out]; exact R.out
                  · exact HA.out j (by omega) hjl
                case measure => simp [intOf]; omega
            · have OA : Hid (∀ j (h : j < l.length), ordS l[j] = false) := Lib.hid (fun j h => HA.out j (by omega) h)
              have R := Lib.hid (chk_end F.out BA.out OA.out)
              clear HA OA BA
              cases hv : ascN (l.map Sch.comp) with
              | false =>
                rw [hv] at R
                go_wp2_with (go_at_call 41; refine (ascS_any l a cap _ (H.out.giC HG.out) hf).mono ?_; rintro e w' ⟨rfl, O, d, rfl⟩; rw [hv])
                go_ret
                exact ⟨by rw [R.out]; rfl, HG.out.xt _ _⟩
              | true =>
                rw [hv] at R
                go_wp2_with (go_at_call 41; refine (ascS_any l a cap _ (H.out.giC HG.out) hf).mono ?_; rintro e w' ⟨rfl, O, d, rfl⟩; rw [hv])
                go_ret
                exact ⟨by rw [R.out]; rfl, HG.out.xt _ _⟩
end Go.Proofs.YtadldblpkgackaaGreatDoor

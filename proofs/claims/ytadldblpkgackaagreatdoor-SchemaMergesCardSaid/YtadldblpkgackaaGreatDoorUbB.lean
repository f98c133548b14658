/- schema.rule. -/
import Derived.Test.YtadldblpkgackaaGreatDoorUbA
import Derived.Test.YtadldblpkgackaaGreatDoorTeC
set_option linter.unusedVariables false
set_option linter.unusedSimpArgs false
namespace Go.Proofs.YtadldblpkgackaaGreatDoor
open Go.RowKit
open Classical

def badW (s : St) : Bool := !visP s
theorem rule1_any (s : St) (w : World) (hf : s.length ≤ 1000000) :
    Calls Tryz.prog 83 #[.string (bs s)] w fun e w' => e = .returned (.bool (badW s)) ∧ w = w' := by
  go_enter Tryz.func83, Tryz.ntmps83
  go_wp2_with (go_at_call 35; refine (vis_any s _ hf).mono ?_; rintro e w' ⟨rfl, rfl⟩)
  go_ret
  exact ⟨rfl, rfl⟩
theorem SlOf.giS {w w' : World} {a : Option Addr} {l : List St} (h : SlOf 1 RS w a l) (hg : Gr w w') : SlOf 1 RS w' a l := h.gr RS.mono hg
set_option maxRecDepth 100000 in
set_option maxHeartbeats 4000000 in
theorem idxW_any (ys : List St) (a : Option Addr) (cap : Nat) (w : World) (h : SlOf 1 RS w a ys) (hf : ys.length ≤ 1000000) (hy : ∀ y ∈ ys, y.length ≤ 1000000) :
    Calls Tryz.prog 108 #[.slice a ys.length cap, .func (.func 83) #[] #[]] w fun e w' => ∃ i : Int, e = .returned (.int .i64 i) ∧ (decide (0 ≤ i) = ys.any badW) ∧ Gr w w' := by
  have H := Lib.hid h
  have HY := Lib.hid hy
  clear h hy
  go_enter Tryz.func108, Tryz.ntmps108
  go_wp2_with fail
  go_loopw [8] (fun i wr => ∃ k : Nat, k ≤ ys.length ∧ i = .int .i64 k ∧ (∀ j (hj : j < k) (hjl : j < ys.length), badW ys[j] = false) ∧ Gr w wr) (fun i _ => ys.length - (intOf i).toNat)
  case atStart => exact ⟨0, Nat.zero_le _, rfl, fun j h => absurd h (by omega), Gr.refl _⟩
  case round =>
    obtain ⟨k, hk, rfl, hall, hg⟩ := hrel
    have HA := Lib.hid hall
    have HG := Lib.hid hg
    clear hall hg
    by_cases hlt : k < ys.length
    · obtain ⟨b, o, rfl, c0, _⟩ := (H.out.giS HG.out).one k hlt
      obtain ⟨y, hyk⟩ : ∃ y, ys[k] = y := ⟨_, rfl⟩
      have HYK := Lib.hid hyk
      have hyl := HY.out ys[k] (List.getElem_mem hlt)
      rw [hyk] at c0 hyl
      have hh := has_of_cell c0
      have HC := Lib.hid (rule1_any y wr hyl)
      clear hyk
      by_cases hv : badW y = true
      · rw [hv] at HC
        have V := Lib.hid hv
        clear hv
        go_wp2_with (go_at_call 83; refine HC.out.mono ?_; rintro e w' ⟨rfl, rfl⟩)
        go_ret
        refine ⟨_, rfl, ?_, HG.out⟩
        rw [show decide (0 ≤ (k : Int)) = true by simp, eq_comm, List.any_eq_true]
        exact ⟨_, List.getElem_mem hlt, by rw [HYK.out]; exact V.out⟩
      · rw [Bool.not_eq_true] at hv
        rw [hv] at HC
        have V := Lib.hid hv
        clear hv
        go_wp2_with (go_at_call 83; refine HC.out.mono ?_; rintro e w' ⟨rfl, rfl⟩)
        go_roundw
        case rel =>
          refine ⟨k + 1, by omega, by go_num, fun j hj hjl => ?_, HG.out⟩
          by_cases e : j = k
          · subst e; rw [HYK.out]; exact V.out
          · exact HA.out j (by omega) hjl
        case measure => simp [intOf]; omega
    · go_wp2_with fail
      go_ret
      refine ⟨_, rfl, ?_, HG.out⟩
      rw [eq_comm, show decide ((0:Int) ≤ -1) = false by simp, List.any_eq_false]
      intro x hx
      obtain ⟨j, hj, rfl⟩ := List.getElem_of_mem hx
      simp [HA.out j (by omega) hj]
theorem conW_any (ys : List St) (a : Option Addr) (cap : Nat) (w : World) (h : SlOf 1 RS w a ys) (hf : ys.length ≤ 1000000) (hy : ∀ y ∈ ys, y.length ≤ 1000000) :
    Calls Tryz.prog 82 #[.slice a ys.length cap, .func (.func 83) #[] #[]] w (Grows w (.bool (ys.any badW))) := by
  have H := Lib.hid h
  have HY := Lib.hid hy
  clear h hy
  go_enter Tryz.func82, Tryz.ntmps82
  go_wp2_with fail
  refine (idxW_any ys a cap w H.out hf HY.out).mono ?_
  rintro e w' ⟨x, rfl, hx, hg⟩
  have X := Lib.hid hx
  have HG := Lib.hid hg
  clear hx hg
  go_wp2_with fail
  go_ret
  exact ⟨ret_bool X.out, HG.out⟩
set_option maxRecDepth 100000 in
set_option maxHeartbeats 4000000 in
theorem rule_any (r : Rul) (a : Option Addr) (cap : Nat) (w : World) (h : SlOf 1 RS w a r.words) (hf : r.words.length ≤ 1000000) (hy : ∀ y ∈ r.words, y.length ≤ 1000000) (hn : r.name.length ≤ 1000000) :
    Calls Tryz.prog 38 #[.agg #[.string (bs r.name), .bool r.req, .int .i64 r.kind, .int .i64 r.low, .int .i64 r.high, .int .i64 r.count, .slice a r.words.length cap]] w (Grows w (.bool (ruleP r))) := by
  obtain ⟨name, req, kind, low, high, count, words⟩ := r
  dsimp only at h hf hy hn ⊢
  have HC := Lib.hid (fun W (hg : Gr w W) => conW_any words a cap W (h.giS hg) hf hy)
  have HR : Hid (ruleP ⟨name, req, kind, low, high, count, words⟩ = (propOk name && (decide (1 ≤ kind) && decide (kind ≤ 6)) && (if kind = 3 then decide (0 ≤ low) && decide (high ≤ 4294967295) && decide (low ≤ high) else decide (low = 0) && decide (high = 0)) && (decide (0 ≤ count) && decide (count ≤ 64)) && (decide (count = 0) || cntd kind) && (if kind = 4 then decide (1 ≤ words.length) && decide (words.length ≤ 16) else decide (words.length = 0)) && !(words.any badW))) := Lib.hid (by
    unfold ruleP
    congr 1
    show words.all visP = !(words.any badW)
    rw [Bool.eq_iff_iff]
    simp [badW])
  clear h hy
  have hws : (words.length : Int) ≤ 1000000 := by omega
  by_cases hk : 1 ≤ kind ∧ kind ≤ 6
  · obtain ⟨hk1, hk2⟩ := hk
    have h6 : kind = 1 ∨ kind = 2 ∨ kind = 3 ∨ kind = 4 ∨ kind = 5 ∨ kind = 6 := by omega
    clear hk1 hk2
    rcases h6 with rfl | rfl | rfl | rfl | rfl | rfl
    all_goals
      go_enter Tryz.func38, Tryz.ntmps38
      go_wp2_with (first
        | (go_at_call 81; refine (tokenProp_any _ _ (by omega)).mono ?_; rintro e w' ⟨rfl, rfl⟩)
        | (go_at_call 79; refine (within_any _ _ _ _).mono ?_; rintro e w' ⟨rfl, rfl⟩)
        | (go_at_call 82; refine (HC.out _ (by repeat (first | with_reducible exact Gr.refl _ | with_reducible refine Gr.drewN _ ?_ | with_reducible refine Gr.alloc _ ?_))).mono ?_; rintro e w' ⟨rfl, hg⟩))
      all_goals go_ret
      all_goals clear HC
      all_goals refine ⟨ret_bool (by rw [HR.out]; clear HR; first | (simp_all [cntd]; done) | (simp_all [cntd]; omega) | (simp_all [cntd]; intros; subst_vars; simp_all; done) | (simp_all [cntd]; exact List.length_pos_iff.1 (by assumption))), ?_⟩
      all_goals (first | exact (Gr.refl _).alloc _ | exact ((Gr.refl _).alloc _).trans hg | exact (((Gr.refl _).alloc _).drewN _).trans hg | exact ((Gr.refl _).alloc _).drewN _)
  · have hkb : (decide (1 ≤ kind) && decide (kind ≤ 6)) = false := by
      rw [Bool.and_eq_false_iff]
      rcases Int.lt_or_le kind 1 with q | q
      · exact .inl (decide_eq_false (by omega))
      · exact .inr (decide_eq_false (by omega))
    have HW : Hid (∀ W, Calls Tryz.prog 79 #[.int .i64 kind, .int .i64 1, .int .i64 6] W fun e w' => e = .returned (.bool false) ∧ W = w') := Lib.hid (fun W => by rw [← hkb]; exact within_any _ _ _ _)
    have HK := Lib.hid hkb
    clear hk hkb
    go_enter Tryz.func38, Tryz.ntmps38
    go_wp2_with (first
      | (go_at_call 81; refine (tokenProp_any _ _ (by omega)).mono ?_; rintro e w' ⟨rfl, rfl⟩)
      | (go_at_call 79; refine (HW.out _).mono ?_; rintro e w' ⟨rfl, rfl⟩))
    all_goals go_ret
    all_goals refine ⟨ret_bool (by rw [HR.out, HK.out]; simp), ?_⟩
    all_goals (repeat (first | with_reducible exact Gr.refl _ | with_reducible refine Gr.drewN _ ?_ | with_reducible refine Gr.alloc _ ?_))
end Go.Proofs.YtadldblpkgackaaGreatDoor

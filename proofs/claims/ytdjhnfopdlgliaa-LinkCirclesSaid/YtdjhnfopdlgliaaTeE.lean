/- tree.named. -/
import Derived.Test.YtdjhnfopdlgliaaTeD
set_option linter.unusedVariables false
set_option linter.unusedSimpArgs false
namespace Go.Proofs.Ytdjhnfopdlgliaa
open Go.RowKit
open Classical

def hdrN (i : Nat) (n : Nod) : Bool := if i = 0 then decide (n.parent = -1) && decide (n.name = []) else decide (0 ≤ n.parent) && decide (n.parent < i) && nameOk n.name
theorem nodNm_eq (i : Nat) (n : Nod) : nodNm i n = (hdrN i n && n.props.all (fun p => propOk p.name)) := rfl
theorem named_iff {ts : Tr} : namedT ts = true ↔ ∀ j (h : j < ts.length), nodNm j ts[j] = true := by
  unfold namedT
  rw [List.all_eq_true]
  constructor
  · intro h j hj
    have := h j (List.mem_range.2 hj)
    rwa [List.getD_eq_getElem?_getD, List.getElem?_eq_getElem hj] at this
  · intro h j hj
    rw [List.mem_range] at hj
    rw [List.getD_eq_getElem?_getD, List.getElem?_eq_getElem hj]
    exact h j hj
theorem named_false {ts : Tr} {k : Nat} (h : k < ts.length) (q : nodNm k ts[k] = false) : false = namedT ts := by
  symm; rw [← Bool.not_eq_true, named_iff]; intro h'; rw [h' k h] at q; cases q
theorem named_hdr {ts : Tr} {k : Nat} (h : k < ts.length) (q : hdrN k ts[k] = false) : false = namedT ts := named_false h (by rw [nodNm_eq, q]; rfl)
theorem named_prp {ts : Tr} {k : Nat} (h : k < ts.length) {m : Nat} (hm : m < ts[k].props.length) (q : propOk ts[k].props[m].name = false) : false = namedT ts :=
  named_false h (by rw [nodNm_eq, Bool.and_eq_false_iff]; right; rw [List.all_eq_false]; exact ⟨_, List.getElem_mem hm, by simp [q]⟩)
set_option maxRecDepth 100000 in
set_option maxHeartbeats 4000000 in
theorem named_any (ts : Tr) (a : Option Addr) (cap : Nat) (w : World) (h : SlOf 3 RNod w a ts) (hf : ts.length ≤ 1000000) :
    Calls Try.prog 31 #[.agg #[.slice a ts.length cap]] w (Grows w (.bool (namedT ts))) := by
  have H := Lib.hid h
  clear h
  go_enter Try.func31, Try.ntmps31
  go_wp2_with fail
  go_loopw [10] (fun i wr => ∃ k : Nat, k ≤ ts.length ∧ i = .int .i64 k ∧ (∀ j (hj : j < k) (hjl : j < ts.length), nodNm j ts[j] = true) ∧ Gr w wr) (fun i _ => ts.length - (intOf i).toNat)
  case atStart => exact ⟨0, Nat.zero_le _, rfl, fun j h => absurd h (by omega), (Gr.refl _).alloc _⟩
  case round =>
    obtain ⟨k, hk, rfl, hall, hg⟩ := hrel
    have HA := Lib.hid hall
    have HG := Lib.hid hg
    clear hall hg
    by_cases hlt : k < ts.length
    · obtain ⟨b, o, pa, pc, rfl, c0, c1, c2, hps, hpf, hw, hnl⟩ := nods_at (H.out.gr RNod.mono HG.out) k hlt
      obtain ⟨n, hn⟩ : ∃ n, n = ts[k] := ⟨_, rfl⟩
      have HN := Lib.hid hn
      rw [← hn] at c0 c1 c2 hps hpf hw hnl
      clear hn
      have hh := has_of_cell c0
      by_cases hq : hdrN k n = true
      · have HPS := Lib.hid hps
        have HQ := Lib.hid hq
        unfold Fit at hpf
        clear hps
        by_cases k0 : k = 0
        case' pos =>
          have hq1 : n.parent = -1 ∧ n.name = [] := by simpa [hdrN, k0] using hq
          have kb : ((k : Int) == 0) = true := by simp [k0]
          have kg : decide (0 < k) = false := by simp [k0]
          have K0 := Lib.hid k0
          clear k0
          rw [hq1.1] at c0
          rw [hq1.2] at c1
          clear hq hq1
          go_wp2_with fail
        case' neg =>
          have hq1 : 0 ≤ n.parent ∧ n.parent < k ∧ nameOk n.name = true := by simpa [hdrN, k0, and_assoc] using hq
          have kb : ((k : Int) == 0) = false := by simp [k0]
          have kg : decide (0 < k) = true := by simp; omega
          have p0 : decide (n.parent < 0) = false := by simp; omega
          have p1 : decide ((k : Int) ≤ n.parent) = false := by simp; omega
          have p2 := hq1.2.2
          have K0 := Lib.hid k0
          clear k0 hq1 hq
          go_wp2_with (go_at_call 42; refine (tokenName_any _ _).mono ?_; rintro e w' ⟨rfl, rfl⟩)
        all_goals
          obtain ⟨w5, hw5⟩ : ∃ wo, wo = wr := ⟨_, rfl⟩
          rw [← hw5] at HG HPS
          go_loopw [51] (fun i wr => ∃ m : Nat, m ≤ n.props.length ∧ i = .int .i64 m ∧ (∀ j (hj : j < m) (hjl : j < n.props.length), propOk n.props[j].name = true) ∧ Gr w5 wr) (fun i _ => n.props.length - (intOf i).toNat)
          case atStart => exact ⟨0, Nat.zero_le _, rfl, fun j h => absurd h (by omega), by rw [hw5]; exact (Gr.refl _).alloc _⟩
          case round =>
            clear hw5
            obtain ⟨m, hm, rfl, hal, hg⟩ := hrel
            have HB := Lib.hid hal
            have HJ := Lib.hid hg
            clear hal hg
            by_cases hml : m < n.props.length
            · obtain ⟨b2, o2, rfl, d0, d1, l0, l1⟩ := prps_at (HPS.out.gr RPrp.mono HJ.out) m hml
              have hh2 := has_of_cell d0
              by_cases hv : propOk n.props[m].name = true
              · go_wp2_with (go_at_call 43; refine (tokenProp_any _ _ l0).mono ?_; rintro e w' ⟨rfl, rfl⟩)
                go_roundw
                case rel =>
                  refine ⟨m + 1, by omega, by go_num, fun j hj hjl => ?_, HJ.out.alloc _⟩
                  by_cases e : j = m
                  · subst e; exact hv
                  · exact HB.out j (by omega) hjl
                case measure => simp [intOf]; omega
              · rw [Bool.not_eq_true] at hv
                go_wp2_with (go_at_call 43; refine (tokenProp_any _ _ l0).mono ?_; rintro e w' ⟨rfl, rfl⟩)
                go_ret
                exact ⟨ret_bool (by have := HN.out; subst this; exact named_prp hlt hml hv), (HG.out.trans HJ.out).alloc _⟩
            · go_wp2_with fail
              go_roundw
              case rel =>
                refine ⟨k + 1, by omega, by go_num, fun j hj hjl => ?_, HG.out.trans HJ.out⟩
                by_cases e : j = k
                · subst e
                  rw [← HN.out, nodNm_eq, HQ.out, Bool.true_and, List.all_eq_true]
                  intro x hx
                  obtain ⟨j, hj, rfl⟩ := List.getElem_of_mem hx
                  exact HB.out j (by omega) hj
                · exact HA.out j (by omega) hjl
              case measure => simp [intOf]; omega
      · rw [Bool.not_eq_true] at hq
        have F : Hid (false = namedT ts) := Lib.hid (named_hdr hlt (by rw [← HN.out]; exact hq))
        by_cases k0 : k = 0
        · have hq1 : n.parent = -1 → ¬ n.name = [] := by simpa [hdrN, k0] using hq
          have kb : ((k : Int) == 0) = true := by simp [k0]
          have K0 := Lib.hid k0
          by_cases hpar : n.parent = -1
          · have hne : n.name.isEmpty = false := by have := hq1 hpar; cases hz : n.name with | nil => exact absurd hz this | cons => rfl
            rw [hpar] at c0
            clear k0 hq hq1 hpar hps
            go_wp2_with fail
            go_ret
            exact ⟨ret_bool F.out, HG.out.alloc _⟩
          · have hpb : (n.parent == -1) = false := by simp [hpar]
            clear k0 hq hq1 hps
            go_wp2_with fail
            go_ret
            exact ⟨ret_bool F.out, HG.out.alloc _⟩
        · have hq1 : 0 ≤ n.parent → n.parent < k → nameOk n.name = false := by simpa [hdrN, k0] using hq
          have kb : ((k : Int) == 0) = false := by simp [k0]
          have kg : decide (0 < k) = true := by simp; omega
          clear hq
          by_cases q0 : n.parent < 0
          · have p0 : decide (n.parent < 0) = true := by simp; omega
            clear hps q0 k0
            go_wp2_with fail
            go_ret
            exact ⟨ret_bool F.out, HG.out.alloc _⟩
          · have p0 : decide (n.parent < 0) = false := by simp; omega
            by_cases q1 : (k : Int) ≤ n.parent
            · have p1 : decide ((k : Int) ≤ n.parent) = true := by simp; omega
              clear hps q0 q1 k0
              go_wp2_with fail
              go_ret
              exact ⟨ret_bool F.out, HG.out.alloc _⟩
            · have p1 : decide ((k : Int) ≤ n.parent) = false := by simp; omega
              have p2 := hq1 (by omega) (by omega)
              clear hps q0 q1 k0 hq1
              go_wp2_with (go_at_call 42; refine (tokenName_any _ _).mono ?_; rintro e w' ⟨rfl, rfl⟩)
              go_ret
              exact ⟨ret_bool F.out, HG.out.alloc _⟩
    · go_wp2_with fail
      go_ret
      exact ⟨ret_bool (named_iff.2 fun j hj => HA.out j (by omega) hj).symm, HG.out⟩
end Go.Proofs.Ytdjhnfopdlgliaa

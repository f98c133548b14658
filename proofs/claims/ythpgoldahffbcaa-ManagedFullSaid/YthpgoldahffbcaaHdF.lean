/- The walk of ManagedFull. -/
import Derived.Test.YthpgoldahffbcaaHdN
set_option linter.unusedVariables false
set_option linter.unusedSimpArgs false
namespace Go.Proofs.Ythpgoldahffbcaa
open Go.RowKit
theorem fullH_wide (j : Nat) (hj : j ≤ 1000) : HWide (fullH j) := by
  refine ⟨?_, ?_, ?_⟩ <;> unfold Wide fullH <;> simp <;> omega
theorem fullL_wide (m : Nat) (hm : m ≤ 1000) : HsWide (fullL m) := fun k hk => by
  rw [fullL_at]
  exact fullH_wide k (by rw [fullL_len] at hk; omega)
theorem full_takes (W : World) (j : Nat) (a : Option Addr) (c : Nat) (hj : j < 96) (h : SlOf 3 RHld W a (fullL j)) (hc : j ≤ c) :
    Calls Try.prog 14 #[.slice a j c, .agg #[.int .i64 ((j : Int) % 12), .int .i64 2, .int .i64 j]] W (GivesHE W (fullL (j + 1)) 0) := by
  have := take_any (fullL j) (fullH j) a c W h (by unfold Fit; rw [fullL_len]; omega) (by rw [fullL_len]; exact hc) (fullH_wide j (by omega))
  rw [takeP_yes (full_take j hj), full_take j hj, ← fullL_succ, fullL_len] at this
  simpa [fullH] using this
theorem full_stops (W : World) (a : Option Addr) (c : Nat) (h : SlOf 3 RHld W a (fullL 96)) (hc : 96 ≤ c) :
    Calls Try.prog 14 #[.slice a 96 c, .agg #[.int .i64 0, .int .i64 2, .int .i64 96]] W (GivesHE W [] 3) := by
  have := take_any (fullL 96) (fullH 96) a c W h (by unfold Fit; rw [fullL_len]; omega) (by rw [fullL_len]; exact hc) (fullH_wide 96 (by omega))
  rw [takeP_no (by rw [full_limit]; decide), full_limit, fullL_len] at this
  exact this
theorem full_returns (W : World) (m : Nat) (a : Option Addr) (c : Nat) (hm : m ≤ 96) (h : SlOf 3 RHld W a (fullL m)) :
    Calls Try.prog 10 #[.slice a m c, .int .i64 3] W (GivesRet W (fullL m) 3) := by
  have := return_any 3 (fullL m) a c W h (by rw [fullL_len]; omega)
  rwa [fullL_len] at this
set_option maxRecDepth 100000 in
set_option maxHeartbeats 4000000 in
theorem full_walk (n : Int) (h0 : 0 ≤ n) (h1 : n ≤ 255) (w : World) :
    Calls Try.prog 4 #[.int .u8 n] w (Grows w (.bool true)) := by
  go_enter Try.func4, Try.ntmps4
  go_wp2_with fail
  obtain ⟨K, hK⟩ : ∃ K : Nat, 94 + n % 5 = (K : Int) := ⟨(94 + n % 5).toNat, by omega⟩
  have K1 : 94 ≤ K := by omega
  have K2 : K ≤ 98 := by omega
  (try rw [hK])
  clear hK
  go_loopw [4, 5, 6] (fun v e i wr => ∃ (j : Nat) (x : Int), i = .int .i64 j ∧ e = .int .i64 x ∧ ((x = 0 ∧ j ≤ K ∧ j ≤ 96 ∧ wr.ownsRow w.heap.size 34 3 v j (encHs (fullL j))) ∨ (x = 3 ∧ j = 97 ∧ 97 ≤ K ∧ wr.ownsRow w.heap.size 34 3 v 96 (encHs (fullL 96)))) ∧ Gr w wr) (fun _ _ i _ => K + 1 - (intOf i).toNat)
  case atStart => exact ⟨0, 0, rfl, rfl, .inl ⟨rfl, Nat.zero_le _, by omega, owns_nil _ _ _ _⟩, Gr.refl _⟩
  case round =>
    obtain ⟨j, x, rfl, rfl, hc, hg⟩ := hrel
    have HG := Lib.hid hg
    clear hg
    by_cases hgo : x = 0 ∧ j < K
    · obtain ⟨rfl, hjK⟩ := hgo
      rcases hc with ⟨_, _, hj96, ho⟩ | ⟨e, _⟩
      · have HO := Lib.hid ho
        obtain ⟨a, c, rfl, hcc, hown⟩ := owns_ownN ho
        have SL := Lib.hid (hown.slH (fullL_wide j (by omega)))
        have j1 : (j : Int) < K := by omega
        clear ho hown
        by_cases h96 : j < 96
        · go_wp2_with fail
          refine (full_takes _ j a c h96 SL.out hcc).mono ?_
          rintro e W1 ⟨v', rfl, ho1, hg1⟩
          have O1 := Lib.hid (owns_low (base' := w.heap.size) ho1 HG.out.size)
          have G1 := Lib.hid (HG.out.trans hg1)
          clear ho1 hg1
          go_wp2_with fail
          go_roundw
          case rel => exact ⟨j + 1, 0, by go_num, rfl, .inl ⟨rfl, by omega, by omega, by have := O1.out; rwa [fullL_len] at this⟩, G1.out⟩
          case measure => simp [intOf]; omega
        · obtain rfl : j = 96 := by omega
          go_wp2_with fail
          refine (full_stops _ a c SL.out hcc).mono ?_
          rintro e W1 ⟨v', rfl, ho1, hg1⟩
          have O1 := Lib.hid (Gr.owns HO.out hg1)
          have G1 := Lib.hid (HG.out.trans hg1)
          clear ho1 hg1
          go_wp2_with fail
          go_roundw
          case rel => exact ⟨97, 3, by go_num, rfl, .inr ⟨rfl, rfl, by omega, O1.out⟩, G1.out⟩
          case measure => simp [intOf]; omega
      · omega
    · rcases hc with ⟨rfl, h2, h3, ho⟩ | ⟨rfl, rfl, h3, ho⟩
      · obtain rfl : j = K := by omega
        have q1 : decide ((j : Int) ≤ 96) = true := by simp; omega
        have q2 : decide (j ≤ 96) = true := by simp; omega
        have q3 : decide ((96 : Int) < j) = false := by simp; omega
        have q4 : (if (j : Int) < 96 then (j : Int) else 96) = j := by split <;> omega
        have q5 : (if (96 : Int) < j then (96 : Int) else j) = j := by split <;> omega
        clear hgo
        obtain ⟨a, c, rfl, hcc, hown⟩ := owns_ownN ho
        have SL := Lib.hid (hown.slH (fullL_wide j (by omega)))
        clear ho hown
        go_wp2_with fail
        refine (full_returns _ j a c (by omega) SL.out).mono ?_
        rintro e W1 ⟨v1, v2, rfl, ho1, ho2, hg1⟩
        have WL : Hid (HsWide ((fullL j).filter (fun x : Hld => x.device != 3))) := Lib.hid (HsWide.of_mem fun x hx => (fullL_wide j (by omega)).mem (List.mem_filter.1 hx).1)
        have TL := Lib.hid (full_left j (by omega) (by omega))
        have BL := full_back j (by omega)
        have LL : ((fullL j).filter (fun x : Hld => x.device != 3)).length ≤ 96 := by
          have := List.length_filter_le (fun x : Hld => x.device != 3) (fullL j)
          rw [fullL_len] at this
          omega
        have BL2 : ((fullL j).filter (fun x : Hld => x.device == 3)).length ≤ 96 := by
          have := List.length_filter_le (fun x : Hld => x.device == 3) (fullL j)
          rw [fullL_len] at this
          omega
        obtain ⟨left, hleft⟩ : ∃ left, Hid (left = (fullL j).filter (fun x : Hld => x.device != 3)) := ⟨_, Lib.hid rfl⟩
        rw [← hleft.out] at ho1 WL TL LL
        obtain ⟨nb, hnb⟩ : ∃ nb, Hid (nb = ((fullL j).filter (fun x : Hld => x.device == 3)).length) := ⟨_, Lib.hid rfl⟩
        rw [← hnb.out] at ho2 BL BL2
        obtain ⟨a1, c1, rfl, hc1, hown1⟩ := owns_ownN ho1
        obtain ⟨a2, c2, rfl, -, -⟩ := owns_ownN ho2
        have S1 := Lib.hid (hown1.slH WL.out)
        have G1 := Lib.hid (HG.out.trans hg1)
        have b1 : (0 : Int) < nb := by omega
        clear ho1 ho2 hown1 hg1
        go_wp2_with fail
        refine (take_any left ⟨3, 1, 5000⟩ a1 c1 _ S1.out (by unfold Fit; omega) hc1 (by refine ⟨?_, ?_, ?_⟩ <;> unfold Wide <;> simp)).mono ?_
        rw [TL.out]
        rintro e W2 ⟨v3, rfl, ho3, hg2⟩
        have G2 := Lib.hid (G1.out.trans hg2)
        clear ho3 hg2
        go_wp2_with fail
        refine (sane_any _).mono ?_
        rintro e W3 ⟨rfl, hg3⟩
        have G3 := Lib.hid (G2.out.trans hg3)
        clear hg3
        go_wp2_with fail
        go_ret
        exact ⟨rfl, G3.out⟩
      · have hKK : K = 97 ∨ K = 98 := by omega
        clear hgo h3 K1 K2
        rcases hKK with rfl | rfl
        all_goals
          obtain ⟨a, c, rfl, hcc, hown⟩ := owns_ownN ho
          have SL := Lib.hid (hown.slH (fullL_wide 96 (by omega)))
          clear ho hown
          go_wp2_with fail
          refine (full_returns _ 96 a c (by omega) SL.out).mono ?_
          rintro e W1 ⟨v1, v2, rfl, ho1, ho2, hg1⟩
          have WL : Hid (HsWide ((fullL 96).filter (fun x : Hld => x.device != 3))) := Lib.hid (HsWide.of_mem fun x hx => (fullL_wide 96 (by omega)).mem (List.mem_filter.1 hx).1)
          have TL := Lib.hid (full_left 96 (by omega) (by omega))
          have BL := full_back 96 (by omega)
          have LL : ((fullL 96).filter (fun x : Hld => x.device != 3)).length ≤ 96 := by
            have := List.length_filter_le (fun x : Hld => x.device != 3) (fullL 96)
            rw [fullL_len] at this
            omega
          have BL2 : ((fullL 96).filter (fun x : Hld => x.device == 3)).length ≤ 96 := by
            have := List.length_filter_le (fun x : Hld => x.device == 3) (fullL 96)
            rw [fullL_len] at this
            omega
          obtain ⟨left, hleft⟩ : ∃ left, Hid (left = (fullL 96).filter (fun x : Hld => x.device != 3)) := ⟨_, Lib.hid rfl⟩
          rw [← hleft.out] at ho1 WL TL LL
          obtain ⟨nb, hnb⟩ : ∃ nb, Hid (nb = ((fullL 96).filter (fun x : Hld => x.device == 3)).length) := ⟨_, Lib.hid rfl⟩
          rw [← hnb.out] at ho2 BL BL2
          obtain ⟨a1, c1, rfl, hc1, hown1⟩ := owns_ownN ho1
          obtain ⟨a2, c2, rfl, -, -⟩ := owns_ownN ho2
          have S1 := Lib.hid (hown1.slH WL.out)
          have G1 := Lib.hid (HG.out.trans hg1)
          have b1 : (0 : Int) < nb := by omega
          clear ho1 ho2 hown1 hg1
          go_wp2_with fail
          refine (take_any left ⟨3, 1, 5000⟩ a1 c1 _ S1.out (by unfold Fit; omega) hc1 (by refine ⟨?_, ?_, ?_⟩ <;> unfold Wide <;> simp)).mono ?_
          rw [TL.out]
          rintro e W2 ⟨v3, rfl, ho3, hg2⟩
          have G2 := Lib.hid (G1.out.trans hg2)
          clear ho3 hg2
          go_wp2_with fail
          refine (sane_any _).mono ?_
          rintro e W3 ⟨rfl, hg3⟩
          have G3 := Lib.hid (G2.out.trans hg3)
          clear hg3
          go_wp2_with fail
          go_ret
          exact ⟨rfl, G3.out⟩
end Go.Proofs.Ythpgoldahffbcaa

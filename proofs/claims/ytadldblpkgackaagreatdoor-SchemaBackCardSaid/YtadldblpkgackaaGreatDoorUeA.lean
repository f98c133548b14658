/- Reference of layer 9: SameRule, same, Same (printed by wip/tools/sr.py). -/
import Derived.Test.YtadldblpkgackaaGreatDoorUcB
set_option linter.unusedVariables false
set_option linter.unusedSimpArgs false
namespace Go.Proofs.YtadldblpkgackaaGreatDoor
open Go.RowKit
open Classical

theorem ext_len {α : Type} {l m : List α} {n : Nat} (hl : l.length = n) (hm : m.length = n) (h : ∀ j (h1 : j < l.length) (h2 : j < m.length), l[j] = m[j]) : l = m :=
  List.ext_getElem (by rw [hl, hm]) h
theorem strs_at {w : World} {a : Option Addr} {l : List St} (h : SlOf 1 RS w a l) (k : Nat) (hk : k < l.length) : ∃ b o, a = some ⟨b, o, none⟩ ∧ w.cell? ⟨b, o + k, none⟩ = some (.string (bs l[k])) := by
  obtain ⟨b, o, e, c⟩ := h.one k hk
  exact ⟨b, o, e, c.1⟩
set_option maxRecDepth 100000 in
set_option maxHeartbeats 8000000 in
theorem SameRule_any0 (name1 name2 : St) (req1 req2 : Bool) (kind1 kind2 : Int) (low1 low2 : Int) (high1 high2 : Int) (count1 count2 : Int) (words1 words2 : List St) (a b : Option Addr) (c d : Nat) (w : World) (h1 : SlOf 1 RS w a words1) (h2 : SlOf 1 RS w b words2) (hf1 : words1.length ≤ 1000000) (hf2 : words2.length ≤ 1000000) :
    Calls Tryz.prog 43 #[.agg #[.string (bs name1), .bool req1, .int .i64 kind1, .int .i64 low1, .int .i64 high1, .int .i64 count1, .slice a words1.length c], .agg #[.string (bs name2), .bool req2, .int .i64 kind2, .int .i64 low2, .int .i64 high2, .int .i64 count2, .slice b words2.length d]] w (Grows w (.bool (decide (((⟨name1, req1, kind1, low1, high1, count1, words1⟩ : Rul) = ⟨name2, req2, kind2, low2, high2, count2, words2⟩))))) := by
  have H1 := Lib.hid h1
  have H2 := Lib.hid h2
  clear h1 h2
  go_enter Tryz.func43, Tryz.ntmps43
  by_cases hq : name1 = name2
  · subst hq
    by_cases hq : req1 = req2
    · subst hq
      by_cases hq : kind1 = kind2
      · subst hq
        by_cases hq : low1 = low2
        · subst hq
          by_cases hq : high1 = high2
          · subst hq
            by_cases hq : count1 = count2
            · subst hq
              by_cases hq : words1.length = words2.length
              · obtain ⟨n, hn⟩ : ∃ n, words1.length = n := ⟨_, rfl⟩
                have N1 := Lib.hid hn
                rw [hn] at hq
                have N2 := Lib.hid hq.symm
                rw [hn, ← hq]
                have hf : n ≤ 1000000 := by rw [← hn]; exact hf1
                clear hn hq hf1 hf2
                have RX := Lib.hid ((Row.new w #[.string (bs name1), .bool req1, .int .i64 kind1, .int .i64 low1, .int .i64 high1, .int .i64 count1, .slice a n c] 28).alloc (.cells #[.string (bs name1), .bool req1, .int .i64 kind1, .int .i64 low1, .int .i64 high1, .int .i64 count1, .slice b n d] 28))
                have RY := Lib.hid (Row.new (w.alloc (.cells #[.string (bs name1), .bool req1, .int .i64 kind1, .int .i64 low1, .int .i64 high1, .int .i64 count1, .slice a n c] 28)) #[.string (bs name1), .bool req1, .int .i64 kind1, .int .i64 low1, .int .i64 high1, .int .i64 count1, .slice b n d] 28)
                go_wp2_with fail
                obtain ⟨W, hW⟩ : ∃ W : World, Hid (W = (w.alloc (.cells #[.string (bs name1), .bool req1, .int .i64 kind1, .int .i64 low1, .int .i64 high1, .int .i64 count1, .slice a n c] 28)).alloc (.cells #[.string (bs name1), .bool req1, .int .i64 kind1, .int .i64 low1, .int .i64 high1, .int .i64 count1, .slice b n d] 28)) := ⟨_, Lib.hid rfl⟩
                have GW : Hid (Gr w W) := Lib.hid (by rw [hW.out]; exact ((Gr.refl _).alloc _).alloc _)
                rw [← hW.out] at RX RY ⊢
                obtain ⟨PX, hPX⟩ : ∃ N : Nat, Hid (w.heap.size = N) := ⟨_, Lib.hid rfl⟩
                have hs1 : (w.alloc (.cells #[.string (bs name1), .bool req1, .int .i64 kind1, .int .i64 low1, .int .i64 high1, .int .i64 count1, .slice a n c] 28)).heap.size = w.heap.size + 1 := by simp
                rw [hs1] at RY
                rw [hPX.out] at RX RY
                (try rw [hPX.out])
                clear hW hPX hs1
                go_loopw [58] (fun i wr => ∃ k : Nat, k ≤ n ∧ i = .int .i64 k ∧ (∀ j (hj : j < k) (h1 : j < words1.length) (h2 : j < words2.length), words1[j] = words2[j]) ∧ Gr W wr) (fun i _ => n - (intOf i).toNat)
                case atStart => exact ⟨0, Nat.zero_le _, rfl, fun j h => absurd h (by omega), Gr.refl _⟩
                case round =>
                  obtain ⟨k, hk, rfl, hall, hg⟩ := hrel
                  have HA := Lib.hid hall
                  have HG := Lib.hid hg
                  have RX2 := RX.out.gr hg
                  have RY2 := RY.out.gr hg
                  have x6 : wr.cell? ⟨PX, 6, none⟩ = some (.slice a n c) := RX2.cell 6 (by simp)
                  have y6 : wr.cell? ⟨PX + 1, 6, none⟩ = some (.slice b n d) := RY2.cell 6 (by simp)
                  have hx := has_of_cell x6
                  have hy := has_of_cell y6
                  clear hall hg RX2 RY2
                  by_cases hlt : k < n
                  · have hl1 : k < words1.length := by rw [N1.out]; exact hlt
                    have hl2 : k < words2.length := by rw [N2.out]; exact hlt
                    obtain ⟨b1, o1, rfl, u0⟩ := strs_at (H1.out.gr RS.mono (GW.out.trans HG.out)) k hl1
                    obtain ⟨b2, o2, rfl, v0⟩ := strs_at (H2.out.gr RS.mono (GW.out.trans HG.out)) k hl2
                    obtain ⟨s1, hs1⟩ : ∃ s, words1[k] = s := ⟨_, rfl⟩
                    obtain ⟨s2, hs2⟩ : ∃ s, words2[k] = s := ⟨_, rfl⟩
                    rw [hs1] at u0
                    rw [hs2] at v0
                    have S1 := Lib.hid hs1
                    have S2 := Lib.hid hs2
                    have hh1 := has_of_cell u0
                    have hh2 := has_of_cell v0
                    have kk : (k : Int) < n := by omega
                    clear hs1 hs2
                    by_cases hq : s1 = s2
                    · subst hq
                      go_wp2_with fail
                      go_quiet (fail)
                      go_wp2_with fail
                      go_roundw
                      case rel =>
                        refine ⟨k + 1, by omega, by go_num, fun j hj h1 h2 => ?_, HG.out.drewN _⟩
                        by_cases e : j = k
                        · subst e; rw [S1.out, S2.out]
                        · exact HA.out j (by omega) h1 h2
                      case measure => simp [intOf]; omega
                    · have hb1 : (s1 == s2) = false := by rw [beq_eq_false_iff_ne]; exact hq
                      have hb2 : (s1 != s2) = true := by rw [bne_iff_ne]; exact hq
                      have E : Hid (¬ words1 = words2) := Lib.hid (by
                        intro q
                        have z : words1[k] = words2[k] := by simp only [q]
                        rw [S1.out, S2.out] at z
                        exact hq z)
                      clear hq
                      go_wp2_with fail
                      go_quiet (fail)
                      go_wp2_with fail
                      go_ret
                      exact ⟨ret_bool (by simp [E.out]), (GW.out.trans HG.out).drewN _⟩
                  · have E : Hid (words1 = words2) := Lib.hid (ext_len N1.out N2.out (fun j h1 h2 => HA.out j (by rw [N1.out] at h1; omega) h1 h2))
                    go_wp2_with fail
                    go_ret
                    exact ⟨ret_bool (by rw [E.out]; simp), GW.out.trans HG.out⟩
              · have hb1 : ((words1.length : Int) == (words2.length : Int)) = false := by rw [beq_eq_false_iff_ne]; omega
                have hb2 : ((words1.length : Int) != (words2.length : Int)) = true := by rw [bne_iff_ne]; omega
                have HQ := Lib.hid hq
                clear hq
                go_wp2_with fail
                go_ret
                refine ⟨ret_bool ?_, ((Gr.refl _).alloc _).alloc _⟩
                rw [eq_comm, decide_eq_false_iff_not]
                intro q
                injection q
                exact HQ.out (by simp only [*])
            · have hb1 : (count1 == count2) = false := by rw [beq_eq_false_iff_ne]; exact hq
              have hb2 : (count1 != count2) = true := by rw [bne_iff_ne]; exact hq
              have HQ := Lib.hid hq
              clear hq
              go_wp2_with fail
              go_ret
              refine ⟨ret_bool ?_, ((Gr.refl _).alloc _).alloc _⟩
              rw [eq_comm, decide_eq_false_iff_not]
              intro q
              injection q
              exact HQ.out (by assumption)
          · have hb1 : (high1 == high2) = false := by rw [beq_eq_false_iff_ne]; exact hq
            have hb2 : (high1 != high2) = true := by rw [bne_iff_ne]; exact hq
            have HQ := Lib.hid hq
            clear hq
            go_wp2_with fail
            go_ret
            refine ⟨ret_bool ?_, ((Gr.refl _).alloc _).alloc _⟩
            rw [eq_comm, decide_eq_false_iff_not]
            intro q
            injection q
            exact HQ.out (by assumption)
        · have hb1 : (low1 == low2) = false := by rw [beq_eq_false_iff_ne]; exact hq
          have hb2 : (low1 != low2) = true := by rw [bne_iff_ne]; exact hq
          have HQ := Lib.hid hq
          clear hq
          go_wp2_with fail
          go_ret
          refine ⟨ret_bool ?_, ((Gr.refl _).alloc _).alloc _⟩
          rw [eq_comm, decide_eq_false_iff_not]
          intro q
          injection q
          exact HQ.out (by assumption)
      · have hb1 : (kind1 == kind2) = false := by rw [beq_eq_false_iff_ne]; exact hq
        have hb2 : (kind1 != kind2) = true := by rw [bne_iff_ne]; exact hq
        have HQ := Lib.hid hq
        clear hq
        go_wp2_with fail
        go_ret
        refine ⟨ret_bool ?_, ((Gr.refl _).alloc _).alloc _⟩
        rw [eq_comm, decide_eq_false_iff_not]
        intro q
        injection q
        exact HQ.out (by assumption)
    · have hb1 : (req1 == req2) = false := by rw [beq_eq_false_iff_ne]; exact hq
      have hb2 : (req1 != req2) = true := by rw [bne_iff_ne]; exact hq
      have HQ := Lib.hid hq
      clear hq
      go_wp2_with fail
      go_ret
      refine ⟨ret_bool ?_, ((Gr.refl _).alloc _).alloc _⟩
      rw [eq_comm, decide_eq_false_iff_not]
      intro q
      injection q
      exact HQ.out (by assumption)
  · have hb1 : (name1 == name2) = false := by rw [beq_eq_false_iff_ne]; exact hq
    have hb2 : (name1 != name2) = true := by rw [bne_iff_ne]; exact hq
    have HQ := Lib.hid hq
    clear hq
    go_wp2_with fail
    go_ret
    refine ⟨ret_bool ?_, ((Gr.refl _).alloc _).alloc _⟩
    rw [eq_comm, decide_eq_false_iff_not]
    intro q
    injection q
    exact HQ.out (by assumption)
theorem sameRule_any (x y : Rul) (a b : Option Addr) (c d : Nat) (w : World) (h1 : SlOf 1 RS w a x.words) (h2 : SlOf 1 RS w b y.words) (hf1 : x.words.length ≤ 1000000) (hf2 : y.words.length ≤ 1000000) :
    Calls Tryz.prog 43 #[.agg #[.string (bs x.name), .bool x.req, .int .i64 x.kind, .int .i64 x.low, .int .i64 x.high, .int .i64 x.count, .slice a x.words.length c], .agg #[.string (bs y.name), .bool y.req, .int .i64 y.kind, .int .i64 y.low, .int .i64 y.high, .int .i64 y.count, .slice b y.words.length d]] w (Grows w (.bool (decide (x = y)))) :=
  SameRule_any0 x.name y.name x.req y.req x.kind y.kind x.low y.low x.high y.high x.count y.count x.words y.words a b c d w h1 h2 hf1 hf2
end Go.Proofs.YtadldblpkgackaaGreatDoor

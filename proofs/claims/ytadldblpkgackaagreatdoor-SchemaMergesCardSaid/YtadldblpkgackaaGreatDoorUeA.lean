/- Reference of layer 9: SameRule, same, Same (printed by wip/tools/sr.py). Reference of layer 9: same, Same (printed by wip/tools/sr.py). -/
import Derived.Test.YtadldblpkgackaaGreatDoorUcB
set_option linter.unusedVariables false
set_option linter.unusedSimpArgs false
namespace Go.Proofs.YtadldblpkgackaaGreatDoor
open Go.RowKit
open Classical

theorem ext_len {α : Type} {l m : List α} {n : Nat} (hl : l.length = n) (hm : m.length = n) (h : ∀ j (h1 : j < l.length) (h2 : j < m.length), l[j] = m[j]) : l = m :=
  List.ext_getElem (by rw [hl, hm]) h
theorem strs_at {w : World} {a : Option Addr} {l : List St} (h : SlOf 1 RS w a l) (k : Nat) (hk : k < l.length) : ∃ b o, a = some ⟨b, o, none⟩ ∧ w.cell? ⟨b, o + k, none⟩ = some (.string (bs l[k])) := by
  obtain ⟨b, o, e, c⟩ := h.one k hk
  exact ⟨b, o, e, c.1⟩
set_option maxRecDepth 100000 in
set_option maxHeartbeats 8000000 in
theorem SameRule_any0 (name1 name2 : St) (req1 req2 : Bool) (kind1 kind2 : Int) (low1 low2 : Int) (high1 high2 : Int) (count1 count2 : Int) (words1 words2 : List St) (a b : Option Addr) (c d : Nat) (w : World) (h1 : SlOf 1 RS w a words1) (h2 : SlOf 1 RS w b words2) (hf1 : words1.length ≤ 1000000) (hf2 : words2.length ≤ 1000000) :
    Calls Tryz.prog 43 #[.agg #[.string (bs name1), .bool req1, .int .i64 kind1, .int .i64 low1, .int .i64 high1, .int .i64 count1, .slice a words1.length c], .agg #[.string (bs name2), .bool req2, .int .i64 kind2, .int .i64 low2, .int .i64 high2, .int .i64 count2, .slice b words2.length d]] w (Grows w (.bool (decide (((⟨name1, req1, kind1, low1, high1, count1, words1⟩ : Rul) = ⟨name2, req2, kind2, low2, high2, count2, words2⟩))))) := by
  have H1 := Lib.hid h1
  have H2 := Lib.hid h2
  clear h1 h2
  go_enter Tryz.func43, Tryz.ntmps43
  by_cases hq : name1 = name2
  · subst hq
    by_cases hq : req1 = req2
    · subst hq
      by_cases hq : kind1 = kind2
      · subst hq
        by_cases hq : low1 = low2
        · subst hq
          by_cases hq : high1 = high2
          · subst hq
            by_cases hq : count1 = count2
            · subst hq
              by_cases hq : words1.length = words2.length
              · obtain ⟨n, hn⟩ : ∃ n, words1.length = n := ⟨_, rfl⟩
                have N1 := Lib.hid hn
                rw [hn] at hq
                have N2 := Lib.hid hq.symm
                rw [hn, ← hq]
                have hf : n ≤ 1000000 := by rw [← hn]; exact hf1
                clear hn hq hf1 hf2
                have RX := Lib.hid ((Row.new w #[.string (bs name1), .bool req1, .int .i64 kind1, .int .i64 low1, .int .i64 high1, .int .i64 count1, .slice a n c] 28).alloc (.cells #[.string (bs name1), .bool req1, .int .i64 kind1, .int .i64 low1, .int .i64 high1, .int .i64 count1, .slice b n d] 28))
                have RY := Lib.hid (Row.new (w.alloc (.cells #[.string (bs name1), .bool req1, .int .i64 kind1, .int .i64 low1, .int .i64 high1, .int .i64 count1, .slice a n c] 28)) #[.string (bs name1), .bool req1, .int .i64 kind1, .int .i64 low1, .int .i64 high1, .int .i64 count1, .slice b n d] 28)
                go_wp2_with fail
                obtain ⟨W, hW⟩ : ∃ W : World, Hid (W = (w.alloc (.cells #[.string (bs name1), .bool req1, .int .i64 kind1, .int .i64 low1, .int .i64 high1, .int .i64 count1, .slice a n c] 28)).alloc (.cells #[.string (bs name1), .bool req1, .int .i64 kind1, .int .i64 low1, .int .i64 high1, .int .i64 count1, .slice b n d] 28)) := ⟨_, Lib.hid rfl⟩
                have GW : Hid (Gr w W) := Lib.hid (by rw [hW.out]; exact ((Gr.refl _).alloc _).alloc _)
                rw [← hW.out] at RX RY ⊢
                obtain ⟨PX, hPX⟩ : ∃ N : Nat, Hid (w.heap.size = N) := ⟨_, Lib.hid rfl⟩
                have hs1 : (w.alloc (.cells #[.string (bs name1), .bool req1, .int .i64 kind1, .int .i64 low1, .int .i64 high1, .int .i64 count1, .slice a n c] 28)).heap.size = w.heap.size + 1 := by simp
                rw [hs1] at RY
                rw [hPX.out] at RX RY
                (try rw [hPX.out])
                clear hW hPX hs1
                go_loopw [58] (fun i wr => ∃ k : Nat, k ≤ n ∧ i = .int .i64 k ∧ (∀ j (hj : j < k) (h1 : j < words1.length) (h2 : j < words2.length), words1[j] = words2[j]) ∧ Gr W wr) (fun i _ => n - (intOf i).toNat)
                case atStart => exact ⟨0, Nat.zero_le _, rfl, fun j h => absurd h (by omega), Gr.refl _⟩
                case round =>
                  obtain ⟨k, hk, rfl, hall, hg⟩ := hrel
                  have HA := Lib.hid hall
                  have HG := Lib.hid hg
                  have RX2 := RX.out.gr hg
                  have RY2 := RY.out.gr hg
                  have x6 : wr.cell? ⟨PX, 6, none⟩ = some (.slice a n c) := RX2.cell 6 (by simp)
                  have y6 : wr.cell? ⟨PX + 1, 6, none⟩ = some (.slice b n d) := RY2.cell 6 (by simp)
                  have hx := has_of_cell x6
                  have hy := has_of_cell y6
                  clear hall hg RX2 RY2
                  by_cases hlt : k < n
                  · have hl1 : k < words1.length := by rw [N1.out]; exact hlt
                    have hl2 : k < words2.length := by rw [N2.out]; exact hlt
                    obtain ⟨b1, o1, rfl, u0⟩ := strs_at (H1.out.gr RS.mono (GW.out.trans HG.out)) k hl1
                    obtain ⟨b2, o2, rfl, v0⟩ := strs_at (H2.out.gr RS.mono (GW.out.trans HG.out)) k hl2
                    obtain ⟨s1, hs1⟩ : ∃ s, words1[k] = s := ⟨_, rfl⟩
                    obtain ⟨s2, hs2⟩ : ∃ s, words2[k] = s := ⟨_, rfl⟩
                    rw [hs1] at u0
                    rw [hs2] at v0
                    have S1 := Lib.hid hs1
                    have S2 := Lib.hid hs2
                    have hh1 := has_of_cell u0
                    have hh2 := has_of_cell v0
                    have kk : (k : Int) < n := by omega
                    clear hs1 hs2
                    by_cases hq : s1 = s2
                    · subst hq
                      go_wp2_with fail
                      go_quiet (fail)
                      go_wp2_with fail
                      go_roundw
                      case rel =>
                        refine ⟨k + 1, by omega, by go_num, fun j hj h1 h2 => ?_, HG.out.drewN _⟩
                        by_cases e : j = k
                        · subst e; rw [S1.out, S2.out]
                        · exact HA.out j (by omega) h1 h2
                      case measure => simp [intOf]; omega
                    · have hb1 : (s1 == s2) = false := by rw [beq_eq_false_iff_ne]; exact hq
                      have hb2 : (s1 != s2) = true := by rw [bne_iff_ne]; exact hq
                      have E : Hid (¬ words1 = words2) := Lib.hid (by
                        intro q
                        have z : words1[k] = words2[k] := by simp only [q]
                        rw [S1.out, S2.out] at z
                        exact hq z)
                      clear hq
                      go_wp2_with fail
                      go_quiet (fail)
                      go_wp2_with fail
                      go_ret
                      exact ⟨ret_bool (by simp [E.out]), (GW.out.trans HG.out).drewN _⟩
                  · have E : Hid (words1 = words2) := Lib.hid (ext_len N1.out N2.out (fun j h1 h2 => HA.out j (by rw [N1.out] at h1; omega) h1 h2))
                    go_wp2_with fail
                    go_ret
                    exact ⟨ret_bool (by rw [E.out]; simp), GW.out.trans HG.out⟩
              · have hb1 : ((words1.length : Int) == (words2.length : Int)) = false := by rw [beq_eq_false_iff_ne]; omega
                have hb2 : ((words1.length : Int) != (words2.length : Int)) = true := by rw [bne_iff_ne]; omega
                have HQ := Lib.hid hq
                clear hq
                go_wp2_with fail
                go_ret
                refine ⟨ret_bool ?_, ((Gr.refl _).alloc _).alloc _⟩
                rw [eq_comm, decide_eq_false_iff_not]
                intro q
                injection q
                exact HQ.out (by simp only [*])
            · have hb1 : (count1 == count2) = false := by rw [beq_eq_false_iff_ne]; exact hq
              have hb2 : (count1 != count2) = true := by rw [bne_iff_ne]; exact hq
              have HQ := Lib.hid hq
              clear hq
              go_wp2_with fail
              go_ret
              refine ⟨ret_bool ?_, ((Gr.refl _).alloc _).alloc _⟩
              rw [eq_comm, decide_eq_false_iff_not]
              intro q
              injection q
              exact HQ.out (by assumption)
          · have hb1 : (high1 == high2) = false := by rw [beq_eq_false_iff_ne]; exact hq
            have hb2 : (high1 != high2) = true := by rw [bne_iff_ne]; exact hq
            have HQ := Lib.hid hq
            clear hq
            go_wp2_with fail
            go_ret
            refine ⟨ret_bool ?_, ((Gr.refl _).alloc _).alloc _⟩
            rw [eq_comm, decide_eq_false_iff_not]
            intro q
            injection q
            exact HQ.out (by assumption)
        · have hb1 : (low1 == low2) = false := by rw [beq_eq_false_iff_ne]; exact hq
          have hb2 : (low1 != low2) = true := by rw [bne_iff_ne]; exact hq
          have HQ := Lib.hid hq
          clear hq
          go_wp2_with fail
          go_ret
          refine ⟨ret_bool ?_, ((Gr.refl _).alloc _).alloc _⟩
          rw [eq_comm, decide_eq_false_iff_not]
          intro q
          injection q
          exact HQ.out (by assumption)
      · have hb1 : (kind1 == kind2) = false := by rw [beq_eq_false_iff_ne]; exact hq
        have hb2 : (kind1 != kind2) = true := by rw [bne_iff_ne]; exact hq
        have HQ := Lib.hid hq
        clear hq
        go_wp2_with fail
        go_ret
        refine ⟨ret_bool ?_, ((Gr.refl _).alloc _).alloc _⟩
        rw [eq_comm, decide_eq_false_iff_not]
        intro q
        injection q
        exact HQ.out (by assumption)
    · have hb1 : (req1 == req2) = false := by rw [beq_eq_false_iff_ne]; exact hq
      have hb2 : (req1 != req2) = true := by rw [bne_iff_ne]; exact hq
      have HQ := Lib.hid hq
      clear hq
      go_wp2_with fail
      go_ret
      refine ⟨ret_bool ?_, ((Gr.refl _).alloc _).alloc _⟩
      rw [eq_comm, decide_eq_false_iff_not]
      intro q
      injection q
      exact HQ.out (by assumption)
  · have hb1 : (name1 == name2) = false := by rw [beq_eq_false_iff_ne]; exact hq
    have hb2 : (name1 != name2) = true := by rw [bne_iff_ne]; exact hq
    have HQ := Lib.hid hq
    clear hq
    go_wp2_with fail
    go_ret
    refine ⟨ret_bool ?_, ((Gr.refl _).alloc _).alloc _⟩
    rw [eq_comm, decide_eq_false_iff_not]
    intro q
    injection q
    exact HQ.out (by assumption)
theorem sameRule_any (x y : Rul) (a b : Option Addr) (c d : Nat) (w : World) (h1 : SlOf 1 RS w a x.words) (h2 : SlOf 1 RS w b y.words) (hf1 : x.words.length ≤ 1000000) (hf2 : y.words.length ≤ 1000000) :
    Calls Tryz.prog 43 #[.agg #[.string (bs x.name), .bool x.req, .int .i64 x.kind, .int .i64 x.low, .int .i64 x.high, .int .i64 x.count, .slice a x.words.length c], .agg #[.string (bs y.name), .bool y.req, .int .i64 y.kind, .int .i64 y.low, .int .i64 y.high, .int .i64 y.count, .slice b y.words.length d]] w (Grows w (.bool (decide (x = y)))) :=
  SameRule_any0 x.name y.name x.req y.req x.kind y.kind x.low y.low x.high y.high x.count y.count x.words y.words a b c d w h1 h2 hf1 hf2
end Go.Proofs.YtadldblpkgackaaGreatDoor
set_option linter.unusedVariables false
set_option linter.unusedSimpArgs false
namespace Go.Proofs.YtadldblpkgackaaGreatDoor
open Go.RowKit
open Classical

set_option maxRecDepth 100000 in
set_option maxHeartbeats 8000000 in
theorem same_any0 (comp1 comp2 : St) (closed1 closed2 : Bool) (rules1 rules2 : List Rul) (a b : Option Addr) (c d : Nat) (w : World) (h1 : SlOf 7 RRul w a rules1) (h2 : SlOf 7 RRul w b rules2) (hf1 : rules1.length ≤ 1000000) (hf2 : rules2.length ≤ 1000000) (hb1 : ∀ r ∈ rules1, r.words.length ≤ 1000000) (hb2 : ∀ r ∈ rules2, r.words.length ≤ 1000000) :
    Calls Tryz.prog 32 #[.agg #[.string (bs comp1), .bool closed1, .slice a rules1.length c], .agg #[.string (bs comp2), .bool closed2, .slice b rules2.length d]] w (Grows w (.bool (decide (((⟨comp1, closed1, rules1⟩ : Sch) = ⟨comp2, closed2, rules2⟩))))) := by
  have H1 := Lib.hid h1
  have H2 := Lib.hid h2
  have HB1 := Lib.hid hb1
  have HB2 := Lib.hid hb2
  clear hb1 hb2
  clear h1 h2
  go_enter Tryz.func32, Tryz.ntmps32
  by_cases hq : comp1 = comp2
  · subst hq
    by_cases hq : closed1 = closed2
    · subst hq
      by_cases hq : rules1.length = rules2.length
      · obtain ⟨n, hn⟩ : ∃ n, rules1.length = n := ⟨_, rfl⟩
        have N1 := Lib.hid hn
        rw [hn] at hq
        have N2 := Lib.hid hq.symm
        rw [hn, ← hq]
        have hf : n ≤ 1000000 := by rw [← hn]; exact hf1
        clear hn hq hf1 hf2
        have RX := Lib.hid ((Row.new w #[.string (bs comp1), .bool closed1, .slice a n c] 24).alloc (.cells #[.string (bs comp1), .bool closed1, .slice b n d] 24))
        have RY := Lib.hid (Row.new (w.alloc (.cells #[.string (bs comp1), .bool closed1, .slice a n c] 24)) #[.string (bs comp1), .bool closed1, .slice b n d] 24)
        go_wp2_with fail
        obtain ⟨W, hW⟩ : ∃ W : World, Hid (W = (w.alloc (.cells #[.string (bs comp1), .bool closed1, .slice a n c] 24)).alloc (.cells #[.string (bs comp1), .bool closed1, .slice b n d] 24)) := ⟨_, Lib.hid rfl⟩
        have GW : Hid (Gr w W) := Lib.hid (by rw [hW.out]; exact ((Gr.refl _).alloc _).alloc _)
        rw [← hW.out] at RX RY ⊢
        obtain ⟨PX, hPX⟩ : ∃ N : Nat, Hid (w.heap.size = N) := ⟨_, Lib.hid rfl⟩
        have hs1 : (w.alloc (.cells #[.string (bs comp1), .bool closed1, .slice a n c] 24)).heap.size = w.heap.size + 1 := by simp
        rw [hs1] at RY
        rw [hPX.out] at RX RY
        (try rw [hPX.out])
        clear hW hPX hs1
        go_loopw [30] (fun i wr => ∃ k : Nat, k ≤ n ∧ i = .int .i64 k ∧ (∀ j (hj : j < k) (h1 : j < rules1.length) (h2 : j < rules2.length), rules1[j] = rules2[j]) ∧ Gr W wr) (fun i _ => n - (intOf i).toNat)
        case atStart => exact ⟨0, Nat.zero_le _, rfl, fun j h => absurd h (by omega), Gr.refl _⟩
        case round =>
          obtain ⟨k, hk, rfl, hall, hg⟩ := hrel
          have HA := Lib.hid hall
          have HG := Lib.hid hg
          have RX2 := RX.out.gr hg
          have RY2 := RY.out.gr hg
          have x6 : wr.cell? ⟨PX, 2, none⟩ = some (.slice a n c) := RX2.cell 2 (by simp)
          have y6 : wr.cell? ⟨PX + 1, 2, none⟩ = some (.slice b n d) := RY2.cell 2 (by simp)
          have hx := has_of_cell x6
          have hy := has_of_cell y6
          clear hall hg RX2 RY2
          by_cases hlt : k < n
          · have hl1 : k < rules1.length := by rw [N1.out]; exact hlt
            have hl2 : k < rules2.length := by rw [N2.out]; exact hlt
            obtain ⟨b1, o1, p1, l1, rfl, u0, u1, u2, u3, u4, u5, u6, us⟩ := ruls_at (H1.out.gr RRul.mono (GW.out.trans HG.out)) k hl1
            obtain ⟨b2, o2, p2, l2, rfl, v0, v1, v2, v3, v4, v5, v6, vs⟩ := ruls_at (H2.out.gr RRul.mono (GW.out.trans HG.out)) k hl2
            have hy1 := HB1.out _ (List.getElem_mem hl1)
            have hy2 := HB2.out _ (List.getElem_mem hl2)
            obtain ⟨s1, hs1⟩ : ∃ s, rules1[k] = s := ⟨_, rfl⟩
            obtain ⟨s2, hs2⟩ : ∃ s, rules2[k] = s := ⟨_, rfl⟩
            rw [hs1] at u0 u1 u2 u3 u4 u5 u6 us hy1
            rw [hs2] at v0 v1 v2 v3 v4 v5 v6 vs hy2
            have S1 := Lib.hid hs1
            have S2 := Lib.hid hs2
            have HC : Hid (∀ V, Gr wr V → Calls Tryz.prog 43 #[.agg #[.string (bs s1.name), .bool s1.req, .int .i64 s1.kind, .int .i64 s1.low, .int .i64 s1.high, .int .i64 s1.count, .slice p1 s1.words.length l1], .agg #[.string (bs s2.name), .bool s2.req, .int .i64 s2.kind, .int .i64 s2.low, .int .i64 s2.high, .int .i64 s2.count, .slice p2 s2.words.length l2]] V (Grows V (.bool (decide (s1 = s2))))) := Lib.hid (fun V hg => sameRule_any s1 s2 p1 p2 l1 l2 V (us.gr RS.mono hg) (vs.gr RS.mono hg) hy1 hy2)
            have hh1 := has_of_cell u0
            have hh2 := has_of_cell v0
            have kk : (k : Int) < n := by omega
            clear hs1 hs2 us vs hy1 hy2
            by_cases hq : s1 = s2
            · rw [decide_eq_true hq] at HC
              have QE := Lib.hid hq
              clear hq
              go_wp2_with fail
              refine wp_region_grows (by kernel_rfl) (by kernel_rfl) ?_
              repeat (go_big_quiet_step (first | (go_at_call 43; exact calls_grows (HC.out _ (by repeat (first | with_reducible exact Gr.refl _ | with_reducible refine Gr.xt _ _ ?_ | with_reducible refine Gr.alloc _ ?_))))))
              refine wpQuiet_nil ?_
              rintro _ ⟨⟨O, d9⟩, rfl⟩
              go_wp2_with fail
              go_roundw
              case rel =>
                refine ⟨k + 1, by omega, by go_num, fun j hj h1 h2 => ?_, HG.out.xt _ _⟩
                by_cases e : j = k
                · subst e; rw [S1.out, S2.out]; exact QE.out
                · exact HA.out j (by omega) h1 h2
              case measure => simp [intOf]; omega
            · rw [decide_eq_false hq] at HC
              have E : Hid (¬ rules1 = rules2) := Lib.hid (by
                intro q
                have z : rules1[k] = rules2[k] := by simp only [q]
                rw [S1.out, S2.out] at z
                exact hq z)
              clear hq
              go_wp2_with fail
              refine wp_region_grows (by kernel_rfl) (by kernel_rfl) ?_
              repeat (go_big_quiet_step (first | (go_at_call 43; exact calls_grows (HC.out _ (by repeat (first | with_reducible exact Gr.refl _ | with_reducible refine Gr.xt _ _ ?_ | with_reducible refine Gr.alloc _ ?_))))))
              refine wpQuiet_nil ?_
              rintro _ ⟨⟨O, d9⟩, rfl⟩
              go_wp2_with fail
              go_ret
              exact ⟨ret_bool (by simp [E.out]), (GW.out.trans HG.out).xt _ _⟩
          · have E : Hid (rules1 = rules2) := Lib.hid (ext_len N1.out N2.out (fun j h1 h2 => HA.out j (by rw [N1.out] at h1; omega) h1 h2))
            go_wp2_with fail
            go_ret
            exact ⟨ret_bool (by rw [E.out]; simp), GW.out.trans HG.out⟩
      · have hb1 : ((rules1.length : Int) == (rules2.length : Int)) = false := by rw [beq_eq_false_iff_ne]; omega
        have hb2 : ((rules1.length : Int) != (rules2.length : Int)) = true := by rw [bne_iff_ne]; omega
        have HQ := Lib.hid hq
        clear hq
        go_wp2_with fail
        go_ret
        refine ⟨ret_bool ?_, ((Gr.refl _).alloc _).alloc _⟩
        rw [eq_comm, decide_eq_false_iff_not]
        intro q
        injection q
        exact HQ.out (by simp only [*])
    · have hb1 : (closed1 == closed2) = false := by rw [beq_eq_false_iff_ne]; exact hq
      have hb2 : (closed1 != closed2) = true := by rw [bne_iff_ne]; exact hq
      have HQ := Lib.hid hq
      clear hq
      go_wp2_with fail
      go_ret
      refine ⟨ret_bool ?_, ((Gr.refl _).alloc _).alloc _⟩
      rw [eq_comm, decide_eq_false_iff_not]
      intro q
      injection q
      exact HQ.out (by assumption)
  · have hb1 : (comp1 == comp2) = false := by rw [beq_eq_false_iff_ne]; exact hq
    have hb2 : (comp1 != comp2) = true := by rw [bne_iff_ne]; exact hq
    have HQ := Lib.hid hq
    clear hq
    go_wp2_with fail
    go_ret
    refine ⟨ret_bool ?_, ((Gr.refl _).alloc _).alloc _⟩
    rw [eq_comm, decide_eq_false_iff_not]
    intro q
    injection q
    exact HQ.out (by assumption)
theorem same_any (x y : Sch) (a b : Option Addr) (c d : Nat) (w : World) (h1 : SlOf 7 RRul w a x.rules) (h2 : SlOf 7 RRul w b y.rules) (hf1 : x.rules.length ≤ 1000000) (hf2 : y.rules.length ≤ 1000000) (hb1 : ∀ r ∈ x.rules, r.words.length ≤ 1000000) (hb2 : ∀ r ∈ y.rules, r.words.length ≤ 1000000) :
    Calls Tryz.prog 32 #[.agg #[.string (bs x.comp), .bool x.closed, .slice a x.rules.length c], .agg #[.string (bs y.comp), .bool y.closed, .slice b y.rules.length d]] w (Grows w (.bool (decide (x = y)))) :=
  same_any0 x.comp y.comp x.closed y.closed x.rules y.rules a b c d w h1 h2 hf1 hf2 hb1 hb2
set_option maxRecDepth 100000 in
set_option maxHeartbeats 8000000 in
theorem Same_any (ys1 ys2 : List Sch) (a b : Option Addr) (c d : Nat) (w : World) (h1 : SlOf 3 RSch w a ys1) (h2 : SlOf 3 RSch w b ys2) (hf1 : ys1.length ≤ 1000000) (hf2 : ys2.length ≤ 1000000)
    (hb1 : ∀ s ∈ ys1, s.rules.length ≤ 1000000 ∧ ∀ r ∈ s.rules, r.words.length ≤ 1000000) (hb2 : ∀ s ∈ ys2, s.rules.length ≤ 1000000 ∧ ∀ r ∈ s.rules, r.words.length ≤ 1000000) :
    Calls Tryz.prog 10 #[.slice a ys1.length c, .slice b ys2.length d] w (Grows w (.bool (decide (ys1 = ys2)))) := by
  have H1 := Lib.hid h1
  have H2 := Lib.hid h2
  have HB1 := Lib.hid hb1
  have HB2 := Lib.hid hb2
  clear h1 h2 hb1 hb2
  go_enter Tryz.func10, Tryz.ntmps10
  by_cases hq : ys1.length = ys2.length
  · obtain ⟨n, hn⟩ : ∃ n, ys1.length = n := ⟨_, rfl⟩
    have N1 := Lib.hid hn
    rw [hn] at hq
    have N2 := Lib.hid hq.symm
    rw [hn, ← hq]
    have hf : n ≤ 1000000 := by rw [← hn]; exact hf1
    clear hn hq hf1 hf2
    go_wp2_with fail
    go_loopw [13] (fun i wr => ∃ k : Nat, k ≤ n ∧ i = .int .i64 k ∧ (∀ j (hj : j < k) (h1 : j < ys1.length) (h2 : j < ys2.length), ys1[j] = ys2[j]) ∧ Gr w wr) (fun i _ => n - (intOf i).toNat)
    case atStart => exact ⟨0, Nat.zero_le _, rfl, fun j h => absurd h (by omega), Gr.refl _⟩
    case round =>
      obtain ⟨k, hk, rfl, hall, hg⟩ := hrel
      have HA := Lib.hid hall
      have HG := Lib.hid hg
      clear hall hg
      by_cases hlt : k < n
      · have hl1 : k < ys1.length := by rw [N1.out]; exact hlt
        have hl2 : k < ys2.length := by rw [N2.out]; exact hlt
        obtain ⟨b1, o1, p1, l1, rfl, u0, u1, u2, us⟩ := schs_at (H1.out.gr RSch.mono HG.out) k hl1
        obtain ⟨b2, o2, p2, l2, rfl, v0, v1, v2, vs⟩ := schs_at (H2.out.gr RSch.mono HG.out) k hl2
        have hy1 := HB1.out _ (List.getElem_mem hl1)
        have hy2 := HB2.out _ (List.getElem_mem hl2)
        obtain ⟨s1, hs1⟩ : ∃ s, ys1[k] = s := ⟨_, rfl⟩
        obtain ⟨s2, hs2⟩ : ∃ s, ys2[k] = s := ⟨_, rfl⟩
        rw [hs1] at u0 u1 u2 us hy1
        rw [hs2] at v0 v1 v2 vs hy2
        have S1 := Lib.hid hs1
        have S2 := Lib.hid hs2
        have HC : Hid (∀ V, Gr wr V → Calls Tryz.prog 32 #[.agg #[.string (bs s1.comp), .bool s1.closed, .slice p1 s1.rules.length l1], .agg #[.string (bs s2.comp), .bool s2.closed, .slice p2 s2.rules.length l2]] V (Grows V (.bool (decide (s1 = s2))))) := Lib.hid (fun V hg => same_any s1 s2 p1 p2 l1 l2 V (us.gr RRul.mono hg) (vs.gr RRul.mono hg) hy1.1 hy2.1 hy1.2 hy2.2)
        have hh1 := has_of_cell u0
        have hh2 := has_of_cell v0
        have kk : (k : Int) < n := by omega
        clear hs1 hs2 us vs hy1 hy2
        by_cases hq : s1 = s2
        · rw [decide_eq_true hq] at HC
          have QE := Lib.hid hq
          clear hq
          go_wp2_with fail
          refine wp_region_grows (by kernel_rfl) (by kernel_rfl) ?_
          repeat (go_big_quiet_step (first | (go_at_call 32; exact calls_grows (HC.out _ (by repeat (first | with_reducible exact Gr.refl _ | with_reducible refine Gr.xt _ _ ?_ | with_reducible refine Gr.alloc _ ?_))))))
          refine wpQuiet_nil ?_
          rintro _ ⟨⟨O, d9⟩, rfl⟩
          go_wp2_with fail
          go_roundw
          case rel =>
            refine ⟨k + 1, by omega, by go_num, fun j hj h1 h2 => ?_, HG.out.xt _ _⟩
            by_cases e : j = k
            · subst e; rw [S1.out, S2.out]; exact QE.out
            · exact HA.out j (by omega) h1 h2
          case measure => simp [intOf]; omega
        · rw [decide_eq_false hq] at HC
          have E : Hid (¬ ys1 = ys2) := Lib.hid (by
            intro q
            have z : ys1[k] = ys2[k] := by simp only [q]
            rw [S1.out, S2.out] at z
            exact hq z)
          clear hq
          go_wp2_with fail
          refine wp_region_grows (by kernel_rfl) (by kernel_rfl) ?_
          repeat (go_big_quiet_step (first | (go_at_call 32; exact calls_grows (HC.out _ (by repeat (first | with_reducible exact Gr.refl _ | with_reducible refine Gr.xt _ _ ?_ | with_reducible refine Gr.alloc _ ?_))))))
          refine wpQuiet_nil ?_
          rintro _ ⟨⟨O, d9⟩, rfl⟩
          go_wp2_with fail
          go_ret
          exact ⟨ret_bool (by simp [E.out]), HG.out.xt _ _⟩
      · have E : Hid (ys1 = ys2) := Lib.hid (ext_len N1.out N2.out (fun j h1 h2 => HA.out j (by rw [N1.out] at h1; omega) h1 h2))
        go_wp2_with fail
        go_ret
        exact ⟨ret_bool (by rw [E.out]; simp), HG.out⟩
  · have hb1 : ((ys1.length : Int) == (ys2.length : Int)) = false := by rw [beq_eq_false_iff_ne]; omega
    have hb2 : ((ys1.length : Int) != (ys2.length : Int)) = true := by rw [bne_iff_ne]; omega
    have HQ := Lib.hid hq
    clear hq
    go_wp2_with fail
    go_ret
    refine ⟨ret_bool ?_, Gr.refl _⟩
    rw [eq_comm, decide_eq_false_iff_not]
    intro q
    exact HQ.out (by rw [q])
end Go.Proofs.YtadldblpkgackaaGreatDoor

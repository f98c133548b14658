/- schema.sameSchema (printed by wip/tools/sr2.py). -/
import Derived.Test.YtadldblpkgackaaGreatDoorUeA
set_option linter.unusedVariables false
set_option linter.unusedSimpArgs false
namespace Go.Proofs.YtadldblpkgackaaGreatDoor
open Go.RowKit
open Classical

set_option maxRecDepth 100000 in
set_option maxHeartbeats 4000000 in
theorem equalW_any (l m : List St) (a b : Option Addr) (c d : Nat) (w : World) (h1 : SlOf 1 RS w a l) (h2 : SlOf 1 RS w b m) (hf1 : l.length ≤ 1000000) (hf2 : m.length ≤ 1000000) :
    Calls Tryz.prog 92 #[.slice a l.length c, .slice b m.length d] w (Grows w (.bool (decide (l = m)))) := by
  have H1 := Lib.hid h1
  have H2 := Lib.hid h2
  clear h1 h2
  go_enter Tryz.func92, Tryz.ntmps92
  by_cases hq : l.length = m.length
  · obtain ⟨n, hn⟩ : ∃ n, l.length = n := ⟨_, rfl⟩
    have N1 := Lib.hid hn
    rw [hn] at hq
    have N2 := Lib.hid hq.symm
    rw [hn, ← hq]
    have hf : n ≤ 1000000 := by rw [← hn]; exact hf1
    clear hn hq hf1 hf2
    go_wp2_with fail
    go_loopw [13] (fun i wr => ∃ k : Nat, k ≤ n ∧ i = .int .i64 k ∧ (∀ j (hj : j < k) (h1 : j < l.length) (h2 : j < m.length), l[j] = m[j]) ∧ Gr w wr) (fun i _ => n - (intOf i).toNat)
    case atStart => exact ⟨0, Nat.zero_le _, rfl, fun j h => absurd h (by omega), Gr.refl _⟩
    case round =>
      obtain ⟨k, hk, rfl, hall, hg⟩ := hrel
      have HA := Lib.hid hall
      have HG := Lib.hid hg
      clear hall hg
      by_cases hlt : k < n
      · have hl1 : k < l.length := by rw [N1.out]; exact hlt
        have hl2 : k < m.length := by rw [N2.out]; exact hlt
        obtain ⟨b1, o1, rfl, u0⟩ := strs_at (H1.out.gr RS.mono HG.out) k hl1
        obtain ⟨b2, o2, rfl, v0⟩ := strs_at (H2.out.gr RS.mono HG.out) k hl2
        obtain ⟨s1, hs1⟩ : ∃ s, l[k] = s := ⟨_, rfl⟩
        obtain ⟨s2, hs2⟩ : ∃ s, m[k] = s := ⟨_, rfl⟩
        rw [hs1] at u0
        rw [hs2] at v0
        have S1 := Lib.hid hs1
        have S2 := Lib.hid hs2
        have hh1 := has_of_cell u0
        have hh2 := has_of_cell v0
        have kk : (k : Int) < n := by omega
        clear hs1 hs2
        by_cases hq : s1 = s2
        · subst hq
          go_wp2_with fail
          go_quiet (fail)
          go_wp2_with fail
          go_roundw
          case rel =>
            refine ⟨k + 1, by omega, by go_num, fun j hj h1 h2 => ?_, HG.out.drewN _⟩
            by_cases e : j = k
            · subst e; rw [S1.out, S2.out]
            · exact HA.out j (by omega) h1 h2
          case measure => simp [intOf]; omega
        · have hb1 : (s1 == s2) = false := by rw [beq_eq_false_iff_ne]; exact hq
          have hb2 : (s1 != s2) = true := by rw [bne_iff_ne]; exact hq
          have E : Hid (¬ l = m) := Lib.hid (by
            intro q
            have z : l[k] = m[k] := by simp only [q]
            rw [S1.out, S2.out] at z
            exact hq z)
          clear hq
          go_wp2_with fail
          go_quiet (fail)
          go_wp2_with fail
          go_ret
          exact ⟨ret_bool (by simp [E.out]), HG.out.drewN _⟩
      · have E : Hid (l = m) := Lib.hid (ext_len N1.out N2.out (fun j h1 h2 => HA.out j (by rw [N1.out] at h1; omega) h1 h2))
        go_wp2_with fail
        go_ret
        exact ⟨ret_bool (by rw [E.out]; simp), HG.out⟩
  · have hb1 : ((l.length : Int) == (m.length : Int)) = false := by rw [beq_eq_false_iff_ne]; omega
    have hb2 : ((l.length : Int) != (m.length : Int)) = true := by rw [bne_iff_ne]; omega
    have HQ := Lib.hid hq
    clear hq
    go_wp2_with fail
    go_ret
    refine ⟨ret_bool ?_, Gr.refl _⟩
    rw [eq_comm, decide_eq_false_iff_not]
    intro q
    exact HQ.out (by simp only [*])
set_option maxRecDepth 100000 in
set_option maxHeartbeats 4000000 in
theorem ss1_any0 (name1 name2 : St) (req1 req2 : Bool) (kind1 kind2 : Int) (low1 low2 : Int) (high1 high2 : Int) (count1 count2 : Int) (words1 words2 : List St) (a b : Option Addr) (c d : Nat) (w : World) (h1 : SlOf 1 RS w a words1) (h2 : SlOf 1 RS w b words2) (hf1 : words1.length ≤ 1000000) (hf2 : words2.length ≤ 1000000) :
    Calls Tryz.prog 91 #[.agg #[.string (bs name1), .bool req1, .int .i64 kind1, .int .i64 low1, .int .i64 high1, .int .i64 count1, .slice a words1.length c], .agg #[.string (bs name2), .bool req2, .int .i64 kind2, .int .i64 low2, .int .i64 high2, .int .i64 count2, .slice b words2.length d]] w (Grows w (.bool (decide ((⟨name1, req1, kind1, low1, high1, count1, words1⟩ : Rul) = ⟨name2, req2, kind2, low2, high2, count2, words2⟩)))) := by
  have HE : Hid (∀ V, Gr w V → Calls Tryz.prog 92 #[.slice a words1.length c, .slice b words2.length d] V (Grows V (.bool (decide (words1 = words2))))) := Lib.hid (fun V hg => equalW_any words1 words2 a b c d V (h1.gr RS.mono hg) (h2.gr RS.mono hg) hf1 hf2)
  clear h1 h2
  go_enter Tryz.func91, Tryz.ntmps91
  by_cases hq : name1 = name2
  · subst hq
    by_cases hq : req1 = req2
    · subst hq
      by_cases hq : kind1 = kind2
      · subst hq
        by_cases hq : low1 = low2
        · subst hq
          by_cases hq : high1 = high2
          · subst hq
            by_cases hq : count1 = count2
            · subst hq
              obtain ⟨D, hD⟩ : ∃ D : Bool, decide (words1 = words2) = D := ⟨_, rfl⟩
              have DE : Hid (decide ((⟨name1, req1, kind1, low1, high1, count1, words1⟩ : Rul) = ⟨name1, req1, kind1, low1, high1, count1, words2⟩) = D) := Lib.hid (by rw [← hD, Bool.eq_iff_iff, decide_eq_true_eq, decide_eq_true_eq]; exact ⟨fun q => by injection q, fun q => by rw [q]⟩)
              rw [DE.out]
              rw [hD] at HE
              clear hD
              go_wp2_with (go_at_call 92; refine (HE.out _ (by repeat (first | with_reducible exact Gr.refl _ | with_reducible refine Gr.xt _ _ ?_ | with_reducible refine Gr.alloc _ ?_))).mono ?_; rintro e w' ⟨rfl, O, q, rfl⟩)
              go_ret
              exact ⟨ret_bool (by simp), by repeat (first | with_reducible exact Gr.refl _ | with_reducible refine Gr.xt _ _ ?_ | with_reducible refine Gr.alloc _ ?_)⟩
            · have hb1 : (count1 == count2) = false := by rw [beq_eq_false_iff_ne]; exact hq
              have hb2 : (count1 != count2) = true := by rw [bne_iff_ne]; exact hq
              have HQ := Lib.hid hq
              clear hq
              go_wp2_with fail
              go_ret
              refine ⟨ret_bool ?_, ((Gr.refl _).alloc _).alloc _⟩
              rw [eq_comm, decide_eq_false_iff_not]
              intro q
              injection q
              exact HQ.out (by assumption)
          · have hb1 : (high1 == high2) = false := by rw [beq_eq_false_iff_ne]; exact hq
            have hb2 : (high1 != high2) = true := by rw [bne_iff_ne]; exact hq
            have HQ := Lib.hid hq
            clear hq
            go_wp2_with fail
            go_ret
            refine ⟨ret_bool ?_, ((Gr.refl _).alloc _).alloc _⟩
            rw [eq_comm, decide_eq_false_iff_not]
            intro q
            injection q
            exact HQ.out (by assumption)
        · have hb1 : (low1 == low2) = false := by rw [beq_eq_false_iff_ne]; exact hq
          have hb2 : (low1 != low2) = true := by rw [bne_iff_ne]; exact hq
          have HQ := Lib.hid hq
          clear hq
          go_wp2_with fail
          go_ret
          refine ⟨ret_bool ?_, ((Gr.refl _).alloc _).alloc _⟩
          rw [eq_comm, decide_eq_false_iff_not]
          intro q
          injection q
          exact HQ.out (by assumption)
      · have hb1 : (kind1 == kind2) = false := by rw [beq_eq_false_iff_ne]; exact hq
        have hb2 : (kind1 != kind2) = true := by rw [bne_iff_ne]; exact hq
        have HQ := Lib.hid hq
        clear hq
        go_wp2_with fail
        go_ret
        refine ⟨ret_bool ?_, ((Gr.refl _).alloc _).alloc _⟩
        rw [eq_comm, decide_eq_false_iff_not]
        intro q
        injection q
        exact HQ.out (by assumption)
    · have hb1 : (req1 == req2) = false := by rw [beq_eq_false_iff_ne]; exact hq
      have hb2 : (req1 != req2) = true := by rw [bne_iff_ne]; exact hq
      have HQ := Lib.hid hq
      clear hq
      go_wp2_with fail
      go_ret
      refine ⟨ret_bool ?_, ((Gr.refl _).alloc _).alloc _⟩
      rw [eq_comm, decide_eq_false_iff_not]
      intro q
      injection q
      exact HQ.out (by assumption)
  · have hb1 : (name1 == name2) = false := by rw [beq_eq_false_iff_ne]; exact hq
    have hb2 : (name1 != name2) = true := by rw [bne_iff_ne]; exact hq
    have HQ := Lib.hid hq
    clear hq
    go_wp2_with fail
    go_ret
    refine ⟨ret_bool ?_, ((Gr.refl _).alloc _).alloc _⟩
    rw [eq_comm, decide_eq_false_iff_not]
    intro q
    injection q
    exact HQ.out (by assumption)
theorem ss1_any (x y : Rul) (a b : Option Addr) (c d : Nat) (w : World) (h1 : SlOf 1 RS w a x.words) (h2 : SlOf 1 RS w b y.words) (hf1 : x.words.length ≤ 1000000) (hf2 : y.words.length ≤ 1000000) :
    Calls Tryz.prog 91 #[.agg #[.string (bs x.name), .bool x.req, .int .i64 x.kind, .int .i64 x.low, .int .i64 x.high, .int .i64 x.count, .slice a x.words.length c], .agg #[.string (bs y.name), .bool y.req, .int .i64 y.kind, .int .i64 y.low, .int .i64 y.high, .int .i64 y.count, .slice b y.words.length d]] w (Grows w (.bool (decide (x = y)))) :=
  ss1_any0 x.name y.name x.req y.req x.kind y.kind x.low y.low x.high y.high x.count y.count x.words y.words a b c d w h1 h2 hf1 hf2
set_option maxRecDepth 100000 in
set_option maxHeartbeats 4000000 in
theorem eqfR_any (l m : List Rul) (a b : Option Addr) (c d : Nat) (w : World) (h1 : SlOf 7 RRul w a l) (h2 : SlOf 7 RRul w b m) (hb1 : ∀ r ∈ l, r.words.length ≤ 1000000) (hb2 : ∀ r ∈ m, r.words.length ≤ 1000000) (hf1 : l.length ≤ 1000000) (hf2 : m.length ≤ 1000000) :
    Calls Tryz.prog 90 #[.slice a l.length c, .slice b m.length d, .func (.func 91) #[] #[]] w (Grows w (.bool (decide (l = m)))) := by
  have H1 := Lib.hid h1
  have H2 := Lib.hid h2
  have HB1 := Lib.hid hb1
  have HB2 := Lib.hid hb2
  clear h1 h2 hb1 hb2
  go_enter Tryz.func90, Tryz.ntmps90
  by_cases hq : l.length = m.length
  · obtain ⟨n, hn⟩ : ∃ n, l.length = n := ⟨_, rfl⟩
    have N1 := Lib.hid hn
    rw [hn] at hq
    have N2 := Lib.hid hq.symm
    rw [hn, ← hq]
    have hf : n ≤ 1000000 := by rw [← hn]; exact hf1
    clear hn hq hf1 hf2
    go_wp2_with fail
    go_loopw [17] (fun i wr => ∃ k : Nat, k ≤ n ∧ i = .int .i64 k ∧ (∀ j (hj : j < k) (h1 : j < l.length) (h2 : j < m.length), l[j] = m[j]) ∧ Gr w wr) (fun i _ => n - (intOf i).toNat)
    case atStart => exact ⟨0, Nat.zero_le _, rfl, fun j h => absurd h (by omega), Gr.refl _⟩
    case round =>
      obtain ⟨k, hk, rfl, hall, hg⟩ := hrel
      have HA := Lib.hid hall
      have HG := Lib.hid hg
      clear hall hg
      by_cases hlt : k < n
      · have hl1 : k < l.length := by rw [N1.out]; exact hlt
        have hl2 : k < m.length := by rw [N2.out]; exact hlt
        obtain ⟨b1, o1, p1, l1, rfl, u0, u1, u2, u3, u4, u5, u6, us⟩ := ruls_at (H1.out.gr RRul.mono HG.out) k hl1
        obtain ⟨b2, o2, p2, l2, rfl, v0, v1, v2, v3, v4, v5, v6, vs⟩ := ruls_at (H2.out.gr RRul.mono HG.out) k hl2
        have hy1 := HB1.out _ (List.getElem_mem hl1)
        have hy2 := HB2.out _ (List.getElem_mem hl2)
        obtain ⟨s1, hs1⟩ : ∃ s, l[k] = s := ⟨_, rfl⟩
        obtain ⟨s2, hs2⟩ : ∃ s, m[k] = s := ⟨_, rfl⟩
        rw [hs1] at u0 u1 u2 u3 u4 u5 u6 us hy1
        rw [hs2] at v0 v1 v2 v3 v4 v5 v6 vs hy2
        have S1 := Lib.hid hs1
        have S2 := Lib.hid hs2
        have HC : Hid (∀ V, Gr wr V → Calls Tryz.prog 91 #[.agg #[.string (bs s1.name), .bool s1.req, .int .i64 s1.kind, .int .i64 s1.low, .int .i64 s1.high, .int .i64 s1.count, .slice p1 s1.words.length l1], .agg #[.string (bs s2.name), .bool s2.req, .int .i64 s2.kind, .int .i64 s2.low, .int .i64 s2.high, .int .i64 s2.count, .slice p2 s2.words.length l2]] V (Grows V (.bool (decide (s1 = s2))))) := Lib.hid (fun V hg => ss1_any s1 s2 p1 p2 l1 l2 V (us.gr RS.mono hg) (vs.gr RS.mono hg) hy1 hy2)
        have hh1 := has_of_cell u0
        have hh2 := has_of_cell v0
        have kk : (k : Int) < n := by omega
        clear hs1 hs2 us vs hy1 hy2
        by_cases hq : s1 = s2
        · rw [decide_eq_true hq] at HC
          have QE := Lib.hid hq
          clear hq
          go_wp2_with fail
          refine (HC.out _ (by repeat (first | with_reducible exact Gr.refl _ | with_reducible refine Gr.xt _ _ ?_ | with_reducible refine Gr.alloc _ ?_))).mono ?_
          rintro e w2 ⟨rfl, hg2⟩
          have G2 : Hid (Gr wr w2) := Lib.hid (Gr.trans (by repeat (first | with_reducible exact Gr.refl _ | with_reducible refine Gr.xt _ _ ?_ | with_reducible refine Gr.alloc _ ?_)) hg2)
          clear hg2
          go_wp2_with fail
          go_roundw
          case rel =>
            refine ⟨k + 1, by omega, by go_num, fun j hj h1 h2 => ?_, HG.out.trans G2.out⟩
            by_cases e : j = k
            · subst e; rw [S1.out, S2.out]; exact QE.out
            · exact HA.out j (by omega) h1 h2
          case measure => simp [intOf]; omega
        · rw [decide_eq_false hq] at HC
          have E : Hid (¬ l = m) := Lib.hid (by
            intro q
            have z : l[k] = m[k] := by simp only [q]
            rw [S1.out, S2.out] at z
            exact hq z)
          clear hq
          go_wp2_with fail
          refine (HC.out _ (by repeat (first | with_reducible exact Gr.refl _ | with_reducible refine Gr.xt _ _ ?_ | with_reducible refine Gr.alloc _ ?_))).mono ?_
          rintro e w2 ⟨rfl, hg2⟩
          have G2 : Hid (Gr wr w2) := Lib.hid (Gr.trans (by repeat (first | with_reducible exact Gr.refl _ | with_reducible refine Gr.xt _ _ ?_ | with_reducible refine Gr.alloc _ ?_)) hg2)
          clear hg2
          go_wp2_with fail
          go_ret
          exact ⟨ret_bool (by simp [E.out]), HG.out.trans G2.out⟩
      · have E : Hid (l = m) := Lib.hid (ext_len N1.out N2.out (fun j h1 h2 => HA.out j (by rw [N1.out] at h1; omega) h1 h2))
        go_wp2_with fail
        go_ret
        exact ⟨ret_bool (by rw [E.out]; simp), HG.out⟩
  · have hb1 : ((l.length : Int) == (m.length : Int)) = false := by rw [beq_eq_false_iff_ne]; omega
    have hb2 : ((l.length : Int) != (m.length : Int)) = true := by rw [bne_iff_ne]; omega
    have HQ := Lib.hid hq
    clear hq
    go_wp2_with fail
    go_ret
    refine ⟨ret_bool ?_, Gr.refl _⟩
    rw [eq_comm, decide_eq_false_iff_not]
    intro q
    exact HQ.out (by simp only [*])
set_option maxRecDepth 100000 in
set_option maxHeartbeats 4000000 in
theorem ss_any0 (comp1 comp2 : St) (closed1 closed2 : Bool) (rules1 rules2 : List Rul) (a b : Option Addr) (c d : Nat) (w : World) (h1 : SlOf 7 RRul w a rules1) (h2 : SlOf 7 RRul w b rules2) (hb1 : ∀ r ∈ rules1, r.words.length ≤ 1000000) (hb2 : ∀ r ∈ rules2, r.words.length ≤ 1000000) (hf1 : rules1.length ≤ 1000000) (hf2 : rules2.length ≤ 1000000) :
    Calls Tryz.prog 58 #[.agg #[.string (bs comp1), .bool closed1, .slice a rules1.length c], .agg #[.string (bs comp2), .bool closed2, .slice b rules2.length d]] w (Grows w (.bool (decide ((⟨comp1, closed1, rules1⟩ : Sch) = ⟨comp2, closed2, rules2⟩)))) := by
  have HE : Hid (∀ V, Gr w V → Calls Tryz.prog 90 #[.slice a rules1.length c, .slice b rules2.length d, .func (.func 91) #[] #[]] V (Grows V (.bool (decide (rules1 = rules2))))) := Lib.hid (fun V hg => eqfR_any rules1 rules2 a b c d V (h1.gr RRul.mono hg) (h2.gr RRul.mono hg) hb1 hb2 hf1 hf2)
  clear h1 h2 hb1 hb2
  go_enter Tryz.func58, Tryz.ntmps58
  by_cases hq : comp1 = comp2
  · subst hq
    by_cases hq : closed1 = closed2
    · subst hq
      obtain ⟨D, hD⟩ : ∃ D : Bool, decide (rules1 = rules2) = D := ⟨_, rfl⟩
      have DE : Hid (decide ((⟨comp1, closed1, rules1⟩ : Sch) = ⟨comp1, closed1, rules2⟩) = D) := Lib.hid (by rw [← hD, Bool.eq_iff_iff, decide_eq_true_eq, decide_eq_true_eq]; exact ⟨fun q => by injection q, fun q => by rw [q]⟩)
      rw [DE.out]
      rw [hD] at HE
      clear hD
      go_wp2_with (go_at_call 90; refine (HE.out _ (by repeat (first | with_reducible exact Gr.refl _ | with_reducible refine Gr.xt _ _ ?_ | with_reducible refine Gr.alloc _ ?_))).mono ?_; rintro e w' ⟨rfl, O, q, rfl⟩)
      go_ret
      exact ⟨ret_bool (by simp), by repeat (first | with_reducible exact Gr.refl _ | with_reducible refine Gr.xt _ _ ?_ | with_reducible refine Gr.alloc _ ?_)⟩
    · have hb1 : (closed1 == closed2) = false := by rw [beq_eq_false_iff_ne]; exact hq
      have hb2 : (closed1 != closed2) = true := by rw [bne_iff_ne]; exact hq
      have HQ := Lib.hid hq
      clear hq
      go_wp2_with fail
      go_ret
      refine ⟨ret_bool ?_, ((Gr.refl _).alloc _).alloc _⟩
      rw [eq_comm, decide_eq_false_iff_not]
      intro q
      injection q
      exact HQ.out (by assumption)
  · have hb1 : (comp1 == comp2) = false := by rw [beq_eq_false_iff_ne]; exact hq
    have hb2 : (comp1 != comp2) = true := by rw [bne_iff_ne]; exact hq
    have HQ := Lib.hid hq
    clear hq
    go_wp2_with fail
    go_ret
    refine ⟨ret_bool ?_, ((Gr.refl _).alloc _).alloc _⟩
    rw [eq_comm, decide_eq_false_iff_not]
    intro q
    injection q
    exact HQ.out (by assumption)
theorem ss_any (x y : Sch) (a b : Option Addr) (c d : Nat) (w : World) (h1 : SlOf 7 RRul w a x.rules) (h2 : SlOf 7 RRul w b y.rules) (hb1 : ∀ r ∈ x.rules, r.words.length ≤ 1000000) (hb2 : ∀ r ∈ y.rules, r.words.length ≤ 1000000) (hf1 : x.rules.length ≤ 1000000) (hf2 : y.rules.length ≤ 1000000) :
    Calls Tryz.prog 58 #[.agg #[.string (bs x.comp), .bool x.closed, .slice a x.rules.length c], .agg #[.string (bs y.comp), .bool y.closed, .slice b y.rules.length d]] w (Grows w (.bool (decide (x = y)))) :=
  ss_any0 x.comp y.comp x.closed y.closed x.rules y.rules a b c d w h1 h2 hb1 hb2 hf1 hf2
end Go.Proofs.YtadldblpkgackaaGreatDoor

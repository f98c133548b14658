/- Drop of the reference. -/
import Derived.Test.YthpgoldahffbcaaHdY
import Derived.Test.YthpgoldahffbcaaHeA
import Derived.Outline
set_option linter.unusedVariables false
set_option linter.unusedSimpArgs false
namespace Go.Proofs.Ythpgoldahffbcaa
open Go.RowKit
theorem ix_right {l : List Hld} {x : Hld} {k : Nat} (hr : Right l) (hk : k < l.length) (he : l[k] = x) : ixO l x = some k := by
  refine ix_some hk he fun j hj hjk e => ?_
  have := (List.pairwise_iff_getElem.1 hr.par) j k hj hk hjk
  exact this.1 ⟨by rw [e, he], by rw [e, he]⟩
/-- What the loop knows of the place of x. -/
def AtIs (l : List Hld) (x : Hld) (k : Nat) (y : Int) : Prop := (y = -1 ∧ ∀ j (hj : j < l.length), j < k → l[j] ≠ x) ∨ ∃ i, ∃ h : i < l.length, i < k ∧ y = i ∧ l[i] = x
set_option maxRecDepth 100000 in
set_option maxHeartbeats 4000000 in
theorem refDrop_any (l : List Hld) (x : Hld) (ao : Option Addr) (cap : Nat) (w : World) (h : SlOf 3 RHld w ao l) (hf : Fit l.length) (hc : l.length ≤ cap) :
    Calls Try.prog 21 #[.slice ao l.length cap, .agg #[.int .i64 x.device, .int .i64 x.kind, .int .i64 x.unit]] w (GivesHE w (dropP l x) (dropE l x)) := by
  have H := Lib.hid h
  have HF := Lib.hid hf
  unfold Fit at hf
  clear h
  obtain ⟨i0', hi, hz0, hz1, hz2⟩ := info_parts infoHld
  have vw := vld_wide l
  have v0 := vw.1
  have v1 := vw.2
  clear vw
  by_cases hv : vld l ≠ 0
  · have TE : Hid (dropE l x = 1) := Lib.hid (by rw [dropE, if_pos hv])
    have q1 : (vld l != 0) = true := by simpa using hv
    obtain ⟨f, hfl⟩ : ∃ f, Hid (f = vld l) := ⟨_, Lib.hid rfl⟩
    rw [← hfl.out] at q1 v0 v1
    clear hv
    go_enter Try.func21, Try.ntmps21
    go_wp2_with fail
    refine (refValid_any l ao cap _ (hlds_gr H.out (by repeat (first | with_reducible exact Gr.refl _ | with_reducible refine Gr.alloc _ ?_ | with_reducible refine Gr.xt _ _ ?_ | with_reducible refine Gr.drew ?_))) HF.out hc).mono ?_
    rw [← hfl.out]
    rintro e w' ⟨rfl, O, d, rfl⟩
    go_wp2_with fail
    go_ret2
    rw [TE.out]
    exact givesHE_no (dropP_no (by rw [TE.out]; omega)) (by repeat (first | with_reducible exact Gr.refl _ | with_reducible refine Gr.alloc _ ?_ | with_reducible refine Gr.xt _ _ ?_ | with_reducible refine Gr.drew ?_))
  have hv := Classical.not_not.1 hv
  have HV := Lib.hid hv
  have RR := Lib.hid (right_iff.1 hv)
  have L96 := (vld_zero.1 hv).1
  clear hv v0 v1
  go_enter Try.func21, Try.ntmps21
  go_wp2_with fail
  refine (refValid_any l ao cap _ (hlds_gr H.out (by repeat (first | with_reducible exact Gr.refl _ | with_reducible refine Gr.alloc _ ?_ | with_reducible refine Gr.xt _ _ ?_ | with_reducible refine Gr.drew ?_))) HF.out hc).mono ?_
  rw [HV.out]
  rintro e W0 ⟨rfl, hg0⟩
  have R0 : Hid (Row W0 w.heap.size 34 [.int .i64 x.device, .int .i64 x.kind, .int .i64 x.unit]) := Lib.hid ((Row.new w _ _).gr hg0)
  have G0 : Hid (Gr w W0) := Lib.hid (Gr.trans ((Gr.refl _).alloc _) hg0)
  clear hg0
  go_wp2_with fail
  go_loopw [6, 15] (fun a i wr => ∃ (k : Nat) (y : Int), k ≤ l.length ∧ i = .int .i64 k ∧ a = .int .i64 y ∧ AtIs l x k y ∧ Gr W0 wr) (fun _ i _ => l.length - (intOf i).toNat)
  case atStart => exact ⟨0, -1, Nat.zero_le _, rfl, rfl, .inl ⟨rfl, fun j _ h => absurd h (by omega)⟩, Gr.refl _⟩
  case round =>
    obtain ⟨k, y0, hk, rfl, rfl, hat, hg⟩ := hrel
    have AT := Lib.hid hat
    have HG := Lib.hid hg
    have e0 := (R0.out.gr hg).cell 0 (by simp)
    have e1 := (R0.out.gr hg).cell 1 (by simp)
    have e2 := (R0.out.gr hg).cell 2 (by simp)
    have eh := (R0.out.gr hg).has
    simp only [List.getElem_cons_zero, List.getElem_cons_succ] at e0 e1 e2
    clear hat hg
    by_cases hlt : k < l.length
    · obtain ⟨b, o, rfl, ⟨c0, -⟩, ⟨c1, -⟩, ⟨c2, -⟩⟩ := (hlds_gr H.out (G0.out.trans HG.out)) k hlt
      have ch := has_of_cell c0
      have k0 : (0 : Int) ≤ k := by omega
      have k1 : (k : Int) < l.length := by omega
      obtain ⟨y, hy⟩ : ∃ y, Hid (y = l[k]) := ⟨_, Lib.hid rfl⟩
      rw [← hy.out] at c0 c1 c2
      have hn := eql_hold y.device y.kind y.unit x.device x.kind x.unit
      by_cases he : y = x
      · have hb : (y.device == x.device && y.kind == x.kind && y.unit == x.unit) = true := by subst he; simp
        have IS : Hid (l[k] = x) := Lib.hid (by rw [← hy.out]; exact he)
        rw [hb] at hn
        clear hb he
        go_wp2_with fail
        refine wp_region_grows (by kernel_rfl) (by kernel_rfl) ?_
        repeat (go_big_quiet_step (fail))
        refine wpQuiet_nil ?_
        rintro _ ⟨⟨O5, d5⟩, rfl⟩
        go_wp2_with fail
        go_roundw
        case rel => exact ⟨k + 1, k, by omega, by go_num, rfl, .inr ⟨k, hlt, by omega, rfl, IS.out⟩, HG.out.trans (by repeat (first | with_reducible exact Gr.refl _ | with_reducible refine Gr.alloc _ ?_ | with_reducible refine Gr.xt _ _ ?_ | with_reducible refine Gr.drew ?_))⟩
        case measure => simp [intOf]; omega
      · have hb : (y.device == x.device && y.kind == x.kind && y.unit == x.unit) = false := by
          cases hq : (y.device == x.device && y.kind == x.kind && y.unit == x.unit) with
          | false => rfl
          | true =>
            exfalso; apply he
            simp at hq
            cases x; cases y; simp_all
        have NE : Hid (l[k] ≠ x) := Lib.hid (by rw [← hy.out]; exact he)
        rw [hb] at hn
        clear hb he
        go_wp2_with fail
        refine wp_region_grows (by kernel_rfl) (by kernel_rfl) ?_
        repeat (go_big_quiet_step (fail))
        refine wpQuiet_nil ?_
        rintro _ ⟨⟨O5, d5⟩, rfl⟩
        go_wp2_with fail
        go_roundw
        case rel =>
          refine ⟨k + 1, y0, by omega, by go_num, rfl, ?_, HG.out.trans (by repeat (first | with_reducible exact Gr.refl _ | with_reducible refine Gr.alloc _ ?_ | with_reducible refine Gr.xt _ _ ?_ | with_reducible refine Gr.drew ?_))⟩
          rcases AT.out with ⟨q1, q2⟩ | ⟨i, q1, q2, q3, q4⟩
          · refine .inl ⟨q1, fun j hj hjk => ?_⟩
            by_cases e : j = k
            · subst e; exact NE.out
            · exact q2 j hj (by omega)
          · exact .inr ⟨i, q1, by omega, q3, q4⟩
        case measure => simp [intOf]; omega
    · obtain ⟨W2, rfl⟩ : ∃ W2 : World, W2 = wr := ⟨_, rfl⟩
      have R2 := Lib.hid (R0.out.gr HG.out)
      have G2 := Lib.hid (G0.out.trans HG.out)
      clear e0 e1 e2 eh R0 G0 HG
      rcases AT.out with ⟨rfl, q2⟩ | ⟨i, hil, -, rfl, q4⟩
      · have HI : Hid (ixO l x = none) := Lib.hid (ix_none fun j hj => q2 j hj (by omega))
        have TE : Hid (dropE l x = 4) := Lib.hid (by rw [dropE, if_neg (by rw [HV.out]; decide), HI.out])
        clear q2 AT
        go_wp2_with fail
        go_ret2
        rw [TE.out]
        exact givesHE_no (dropP_no (by rw [TE.out]; omega)) G2.out
      · have HI := Lib.hid (ix_right RR.out hil q4)
        clear AT q4
        obtain ⟨b, o, rfl, -⟩ := H.out i hil
        have TE : Hid (dropE l x = if (l.drop (i + 1)).any (fun y => y.device == x.device) = true then 12 else 0) := Lib.hid (by rw [dropE, if_neg (by rw [HV.out]; decide), HI.out])
        have TP : Hid (dropE l x = 0 → dropP l x = l.take i ++ l.drop (i + 1)) := Lib.hid fun q => by rw [dropP, if_pos q, HI.out]
        have DLH : Hid ((l.drop (i + 1)).length = l.length - (i + 1)) := Lib.hid List.length_drop
        have TL : Hid ((l.take i).length = i) := Lib.hid (by rw [List.length_take]; omega)
        have i0 : (0 : Int) ≤ i := by omega
        have i00 : decide ((i : Int) < 0) = false := by simp
        have i1 : (i : Int) + 1 ≤ l.length := by omega
        have i4 : i + 1 ≤ l.length := by omega
        have i5 : ((i : Int) + 1).toNat = i + 1 := by omega
        have i7 : (i : Int) ≤ l.length := by omega
        have i8 : IntKind.i64.wrap ((i : Int) + 1) = (i : Int) + 1 := by rw [IntKind.wrap_i64]; omega
        have i9 : (0 : Int) ≤ (i : Int) + 1 := by omega
        have i10 : (i : Int) ≤ (i : Int) + 1 := by omega
        by_cases hcap : cap = i + 1
        · subst hcap
          have hl1 : l.length = i + 1 := by omega
          have HDN : Hid (l.drop (i + 1) = []) := Lib.hid (List.drop_eq_nil_of_le hc)
          have SD : Hid (SlOf 3 RHld w (some ⟨b, o, none⟩) (l.drop (i + 1))) := Lib.hid (by rw [HDN.out]; exact SlOf.nil _ _ _ _)
          have le1 : l.length ≤ i + 1 := by omega
          clear hl1
          go_wp2_with fail
          go_loopw [33] (fun j wr => ∃ k : Nat, k ≤ 0 ∧ j = .int .i64 k ∧ (∀ m (hm : m < (l.drop (i + 1)).length), m < k → ((l.drop (i + 1))[m].device == x.device) = false) ∧ Gr W2 wr) (fun j _ => (l.drop (i + 1)).length - (intOf j).toNat)
          case atStart => exact ⟨0, Nat.zero_le _, rfl, fun j _ h => absurd h (by omega), Gr.refl _⟩
          case round =>
            obtain ⟨k, hk, rfl, hall, hg⟩ := hrel
            have HA := Lib.hid hall
            have HG := Lib.hid hg
            have e0 := (R2.out.gr hg).cell 0 (by simp)
            have eh := (R2.out.gr hg).has
            simp only [List.getElem_cons_zero] at e0
            clear hall hg
            · obtain rfl : k = 0 := by omega
              have TE0 : Hid (dropE l x = 0) := Lib.hid (by
                rw [TE.out, if_neg]
                rw [List.any_eq_true]
                rintro ⟨y, hy, q⟩
                obtain ⟨m, hm, rfl⟩ := List.getElem_of_mem hy
                rw [HA.out m hm (by have := DLH.out; omega)] at q
                cases q)
              have H1 := Lib.hid (take_sl (hlds_gr H.out (G2.out.trans HG.out)) i)
              have H2 := Lib.hid (hlds_gr SD.out (G2.out.trans HG.out))
              have G3 := Lib.hid (G2.out.trans HG.out)
              clear e0 eh
              go_wp2_with fail
              go_region_law (first
                | (refine step_append_gets _ rfl _ _ 24 rfl w.heap.size 34 i0' (.agg #[.int .i64 0, .int .i64 0, .int .i64 0]) 3 24 Try.underlying24 hi hz0 hz1 hz2 rfl (by decide) (.slice none 0 0) 0 [] (by simp [Act.eval, Act.put]) (owns_nil _ _ _ _) (some ⟨b, o, none⟩) i (i + 1) (encHs (l.take i)) (by simp [Act.eval, Act.put]) (by have := gets_sl (hlds_gr H1.out (by repeat (first | with_reducible exact Gr.refl _ | with_reducible refine Gr.alloc _ ?_ | with_reducible refine Gr.xt _ _ ?_ | with_reducible refine Gr.drew ?_))); rwa [TL.out] at this) (encHs_one _) (by unfold maxLen; omega) (by omega) (by have := G3.out.size; simp; omega) ?_; intro v1 w1 hown hgrow hnil; have O1 := Lib.hid hown; have G1 : Hid (Gr wr w1) := Lib.hid (Gr.grown (by repeat (first | with_reducible exact Gr.refl _ | with_reducible refine Gr.alloc _ ?_ | with_reducible refine Gr.xt _ _ ?_ | with_reducible refine Gr.drew ?_)) hgrow (fun k e => by cases e)); clear hown hgrow hnil)
                | (refine step_append_gets _ rfl _ _ 24 rfl w.heap.size 34 i0' (.agg #[.int .i64 0, .int .i64 0, .int .i64 0]) 3 24 Try.underlying24 hi hz0 hz1 hz2 rfl (by decide) v1 (0 + i) ([] ++ encHs (l.take i)) (by simp [Act.eval, Act.put]) (Gr.owns O1.out (by repeat (first | with_reducible exact Gr.refl _ | with_reducible refine Gr.alloc _ ?_ | with_reducible refine Gr.xt _ _ ?_ | with_reducible refine Gr.drew ?_))) (some ⟨b, o, none⟩) 0 0 (encHs ([])) (by simp [Act.eval, Act.put]) (by have := gets_sl (hlds_gr H2.out (G1.out.trans (by repeat (first | with_reducible exact Gr.refl _ | with_reducible refine Gr.alloc _ ?_ | with_reducible refine Gr.xt _ _ ?_ | with_reducible refine Gr.drew ?_)))); rw [HDN.out] at this; exact this) (encHs_one _) (by unfold maxLen; omega) (by omega) (by have := G3.out.size; have := G1.out.size; simp; omega) ?_; intro v2 w2 hown hgrow hnil; have O2 := Lib.hid hown; have GZ : Hid (Gr w w2) := Lib.hid (Gr.grown (G3.out.trans (G1.out.trans (by repeat (first | with_reducible exact Gr.refl _ | with_reducible refine Gr.alloc _ ?_ | with_reducible refine Gr.xt _ _ ?_ | with_reducible refine Gr.drew ?_)))) hgrow (fun k e => (owns_block O1.out k e).1)); clear hown hgrow hnil))
              all_goals go_wp2_with fail
              all_goals
                refine bodyPost_ret (v := .tuple #[v2, .int .i64 0]) ?_ rfl ?_
                · simp [results, Try.results21, go_sem]
                · rw [TP.out TE0.out, TE0.out]
                  refine ⟨v2, rfl, ?_, GZ.out⟩
                  have q := O2.out
                  have t1 := TL.out
                  have t2 := DLH.out
                  rw [HDN.out]
                  rw [List.length_append, t1, encHs_app]
                  simpa using q
        · have hne : cap ≠ i + 1 := hcap
          have i3 : i + 1 ≤ cap := by omega
          have i2 : (i : Int) + 1 ≤ cap := by omega
          have i6 : (i : Int) ≤ cap := by omega
          have SD := Lib.hid (drop_sl H.out (i + 1))
          go_wp2_with fail
          go_loopw [33] (fun j wr => ∃ k : Nat, k ≤ (l.drop (i + 1)).length ∧ j = .int .i64 k ∧ (∀ m (hm : m < (l.drop (i + 1)).length), m < k → ((l.drop (i + 1))[m].device == x.device) = false) ∧ Gr W2 wr) (fun j _ => (l.drop (i + 1)).length - (intOf j).toNat)
          case atStart => exact ⟨0, Nat.zero_le _, rfl, fun j _ h => absurd h (by omega), Gr.refl _⟩
          case round =>
            obtain ⟨k, hk, rfl, hall, hg⟩ := hrel
            have HA := Lib.hid hall
            have HG := Lib.hid hg
            have e0 := (R2.out.gr hg).cell 0 (by simp)
            have eh := (R2.out.gr hg).has
            simp only [List.getElem_cons_zero] at e0
            clear hall hg
            by_cases hlt : k < (l.drop (i + 1)).length
            · obtain ⟨b', o', ee, ⟨c0, -⟩, ⟨c1, -⟩, ⟨c2, -⟩⟩ := (hlds_gr SD.out (G2.out.trans HG.out)) k hlt
              cases ee
              have ch := has_of_cell c0
              have kk : (k : Int) < (l.length - (i + 1) : Nat) := by have := DLH.out; omega
              have k0 : (0 : Int) ≤ k := by omega
              obtain ⟨y, hy⟩ : ∃ y, Hid (y = (l.drop (i + 1))[k]) := ⟨_, Lib.hid rfl⟩
              rw [← hy.out] at c0 c1 c2
              cases hb : (y.device == x.device) with
              | true =>
                have AN : Hid (dropE l x = 12) := Lib.hid (by rw [TE.out, if_pos (List.any_eq_true.2 ⟨(l.drop (i + 1))[k], List.getElem_mem hlt, by rw [← hy.out]; exact hb⟩)])
                go_wp2_with fail
                go_ret2
                rw [AN.out]
                exact givesHE_no (dropP_no (by rw [AN.out]; omega)) ((G2.out.trans HG.out).trans (by repeat (first | with_reducible exact Gr.refl _ | with_reducible refine Gr.alloc _ ?_ | with_reducible refine Gr.xt _ _ ?_ | with_reducible refine Gr.drew ?_)))
              | false =>
                have NB : Hid (((l.drop (i + 1))[k].device == x.device) = false) := Lib.hid (by rw [← hy.out]; exact hb)
                go_wp2_with fail
                go_roundw
                case rel =>
                  refine ⟨k + 1, by omega, by go_num, fun m hm hmk => ?_, HG.out.trans (by repeat (first | with_reducible exact Gr.refl _ | with_reducible refine Gr.alloc _ ?_ | with_reducible refine Gr.xt _ _ ?_ | with_reducible refine Gr.drew ?_))⟩
                  by_cases e : m = k
                  · subst e; exact NB.out
                  · exact HA.out m hm (by omega)
                case measure => simp [intOf]; omega
            · have hkl : (k : Int) = (l.length - (i + 1) : Nat) := by have := DLH.out; omega
              have hkk : decide ((k : Int) < (l.length - (i + 1) : Nat)) = false := by simp; omega
              have hk3 : ¬ k < l.length - (i + 1) := by have := DLH.out; omega
              clear hkl
              have TE0 : Hid (dropE l x = 0) := Lib.hid (by
                rw [TE.out, if_neg]
                rw [List.any_eq_true]
                rintro ⟨y, hy, q⟩
                obtain ⟨m, hm, rfl⟩ := List.getElem_of_mem hy
                rw [HA.out m hm (by have := DLH.out; omega)] at q
                cases q)
              have H1 := Lib.hid (take_sl (hlds_gr H.out (G2.out.trans HG.out)) i)
              have H2 := Lib.hid (hlds_gr SD.out (G2.out.trans HG.out))
              have G3 := Lib.hid (G2.out.trans HG.out)
              clear e0 eh
              go_wp2_with fail
              go_region_law (first
                | (refine step_append_gets _ rfl _ _ 24 rfl w.heap.size 34 i0' (.agg #[.int .i64 0, .int .i64 0, .int .i64 0]) 3 24 Try.underlying24 hi hz0 hz1 hz2 rfl (by decide) (.slice none 0 0) 0 [] (by simp [Act.eval, Act.put]) (owns_nil _ _ _ _) (some ⟨b, o, none⟩) i cap (encHs (l.take i)) (by simp [Act.eval, Act.put]) (by have := gets_sl (hlds_gr H1.out (by repeat (first | with_reducible exact Gr.refl _ | with_reducible refine Gr.alloc _ ?_ | with_reducible refine Gr.xt _ _ ?_ | with_reducible refine Gr.drew ?_))); rwa [TL.out] at this) (encHs_one _) (by unfold maxLen; omega) (by omega) (by have := G3.out.size; simp; omega) ?_; intro v1 w1 hown hgrow hnil; have O1 := Lib.hid hown; have G1 : Hid (Gr wr w1) := Lib.hid (Gr.grown (by repeat (first | with_reducible exact Gr.refl _ | with_reducible refine Gr.alloc _ ?_ | with_reducible refine Gr.xt _ _ ?_ | with_reducible refine Gr.drew ?_)) hgrow (fun k e => by cases e)); clear hown hgrow hnil)
                | (refine step_append_gets _ rfl _ _ 24 rfl w.heap.size 34 i0' (.agg #[.int .i64 0, .int .i64 0, .int .i64 0]) 3 24 Try.underlying24 hi hz0 hz1 hz2 rfl (by decide) v1 (0 + i) ([] ++ encHs (l.take i)) (by simp [Act.eval, Act.put]) (Gr.owns O1.out (by repeat (first | with_reducible exact Gr.refl _ | with_reducible refine Gr.alloc _ ?_ | with_reducible refine Gr.xt _ _ ?_ | with_reducible refine Gr.drew ?_))) (some ⟨b, o + (i + 1) * 3, none⟩) (l.length - (i + 1)) (cap - (i + 1)) (encHs (l.drop (i + 1))) (by simp [Act.eval, Act.put]) (by have := gets_sl (hlds_gr H2.out (G1.out.trans (by repeat (first | with_reducible exact Gr.refl _ | with_reducible refine Gr.alloc _ ?_ | with_reducible refine Gr.xt _ _ ?_ | with_reducible refine Gr.drew ?_)))); rwa [DLH.out] at this) (encHs_one _) (by unfold maxLen; omega) (by omega) (by have := G3.out.size; have := G1.out.size; simp; omega) ?_; intro v2 w2 hown hgrow hnil; have O2 := Lib.hid hown; have GZ : Hid (Gr w w2) := Lib.hid (Gr.grown (G3.out.trans (G1.out.trans (by repeat (first | with_reducible exact Gr.refl _ | with_reducible refine Gr.alloc _ ?_ | with_reducible refine Gr.xt _ _ ?_ | with_reducible refine Gr.drew ?_)))) hgrow (fun k e => (owns_block O1.out k e).1)); clear hown hgrow hnil))
              all_goals go_wp2_with fail
              all_goals
                refine bodyPost_ret (v := .tuple #[v2, .int .i64 0]) ?_ rfl ?_
                · simp [results, Try.results21, go_sem]
                · rw [TP.out TE0.out, TE0.out]
                  refine ⟨v2, rfl, ?_, GZ.out⟩
                  have q := O2.out
                  have t1 := TL.out
                  have t2 := DLH.out
                  skip
                  rw [List.length_append, t1, encHs_app]
                  simpa [t2] using q
end Go.Proofs.Ythpgoldahffbcaa

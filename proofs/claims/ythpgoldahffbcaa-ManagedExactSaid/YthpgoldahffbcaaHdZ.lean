/- The walk of ManagedAlone. -/
import Derived.Test.YthpgoldahffbcaaHdN
import Derived.Test.YthpgoldahffbcaaHdM
import Derived.Test.YthpgoldahffbcaaHdQ
set_option linter.unusedVariables false
set_option linter.unusedSimpArgs false
namespace Go.Proofs.Ythpgoldahffbcaa
open Go.RowKit
theorem in_yes (zs : List Int) (x : Int) (ao : Option Addr) (cap : Nat) (w : World) (h : SlOf 1 RI w ao zs) (hf : Fit zs.length) (hx : x ∈ zs) :
    Calls Try.prog 27 #[.slice ao zs.length cap, .int .i64 x] w (Grows w (.bool true)) := by
  unfold Fit at hf
  have H := Lib.hid h
  have HX := Lib.hid hx
  clear h hx
  go_enter Try.func27, Try.ntmps27
  go_wp2_with fail
  go_loopw [9] (fun i wr => ∃ k : Nat, k ≤ zs.length ∧ i = .int .i64 k ∧ (∀ j (hj : j < zs.length), j < k → zs[j] ≠ x) ∧ Gr w wr) (fun i _ => zs.length - (intOf i).toNat)
  case atStart => exact ⟨0, Nat.zero_le _, rfl, fun j _ h => absurd h (by omega), Gr.refl _⟩
  case round =>
    obtain ⟨k, hk, rfl, hall, hg⟩ := hrel
    have HA := Lib.hid hall
    have HG := Lib.hid hg
    clear hall hg
    by_cases hlt : k < zs.length
    · obtain ⟨b, o, rfl, c0, -⟩ := (H.out.giI HG.out).one k hlt
      have ch := has_of_cell c0
      obtain ⟨y, hy⟩ : ∃ y, Hid (y = zs[k]) := ⟨_, Lib.hid rfl⟩
      rw [← hy.out] at c0
      by_cases he : y = x
      · have hb : (y == x) = true := by simpa using he
        clear he
        go_wp2_with fail
        go_ret
        exact ⟨rfl, HG.out⟩
      · have hb : (y == x) = false := by simpa using he
        have NE : Hid (zs[k] ≠ x) := Lib.hid (by rw [← hy.out]; exact he)
        clear he
        go_wp2_with fail
        go_roundw
        case rel =>
          refine ⟨k + 1, by omega, by go_num, fun j hj hjk => ?_, HG.out⟩
          by_cases e : j = k
          · subst e; exact NE.out
          · exact HA.out j hj (by omega)
        case measure => simp [intOf]; omega
    · exfalso
      obtain ⟨j, hj, e⟩ := List.getElem_of_mem HX.out
      exact HA.out j hj (by omega) e
theorem snoc_at {l L : List Hld} {x : Hld} (h : L = l ++ [x]) : ∀ (hk : l.length < L.length), L[l.length] = x := by
  subst h
  intro hk
  simp
set_option maxRecDepth 100000 in
set_option maxHeartbeats 4000000 in
theorem alone_walk (a : Option Addr) (len cap : Nat) (zs : List Int) (w : World) (h : RowIn w a len cap zs) :
    Calls Try.prog 6 #[.slice a len cap] w (Grows w (.bool true)) := by
  have H := Lib.hid h
  clear h
  by_cases hbig : 200 < len
  · have q1 : decide ((200 : Int) < len) = true := by simp; omega
    have q2 : decide (200 < len) = true := by simpa using hbig
    clear hbig
    go_enter Try.func6, Try.ntmps6
    go_wp2_with fail
    refine (sane_any _).mono ?_
    rintro e W3 ⟨rfl, hg3⟩
    have G3 := Lib.hid hg3
    clear hg3
    go_wp2_with fail
    go_ret
    exact ⟨rfl, G3.out⟩
  have q1 : decide ((200 : Int) < len) = false := by simp; omega
  have q2 : decide (200 < len) = false := by simpa using hbig
  clear hbig
  go_enter Try.func6, Try.ntmps6
  go_wp2_with fail
  refine (newTape_any w a len cap zs H.out).mono ?_
  rintro e W0 ⟨b, nn, rfl, ht, hg, hb, _⟩
  have TT : Hid (Tp W0 b nn) := Lib.hid ⟨_, ht⟩
  have G0 := Lib.hid hg
  have HB := Lib.hid hb
  clear ht hg hb
  go_wp2_with fail
  refine (holds_any W0 b nn TT.out).mono ?_
  rintro e W1 ⟨l, v, rfl, ho, hr, hl9, hsm, hm⟩
  have RI' := Lib.hid hr
  have WD := Lib.hid (smalls_wide hsm)
  have M1 := Lib.hid hm
  have T1 := Lib.hid (hm.tp TT.out)
  have O1 := Lib.hid ho
  clear ho hr hsm hm
  obtain ⟨al, cl, rfl, hcl, -⟩ := owns_ownN O1.out
  go_wp2_with fail
  refine (hold_any W1 b nn T1.out).mono ?_
  rintro e W2 ⟨x, rfl, hx, hm⟩
  have SX := Lib.hid hx
  have XW := Lib.hid hx.wide
  have O2 := Lib.hid (hm.owns O1.out TT.out.has)
  have SL := Lib.hid ((by obtain ⟨a', c', e, _, q⟩ := owns_ownN O2.out; cases e; exact q.slH WD.out) : SlOf 3 RHld W2 al l)
  have G2 : Hid (Gr w W2) := Lib.hid (Mv.out G0.out (M1.out.trans TT.out.has hm) HB.out)
  have kx : x.kind = 1 ∨ x.kind = 2 := hx.2.2.1
  have KX := Lib.hid kx
  have NRB : Hid (¬ RngBad x) := Lib.hid (by obtain ⟨h1, h2, h3, h4, h5⟩ := hx; unfold RngBad; omega)
  clear hx hm O1 O2 M1 T1 TT G0 HB kx
  go_wp2_with fail
  obtain ⟨W3, hW3⟩ : ∃ W3 : World, Hid (W3 = W2.alloc (.cells #[.int .i64 x.device, .int .i64 x.kind, .int .i64 x.unit] 34)) := ⟨_, Lib.hid rfl⟩
  have G3 : Hid (Gr W2 W3) := Lib.hid (by rw [hW3.out]; exact (Gr.refl _).alloc _)
  have R3 : Hid (Row W3 W2.heap.size 34 [.int .i64 x.device, .int .i64 x.kind, .int .i64 x.unit]) := Lib.hid (by rw [hW3.out]; exact Row.new W2 _ _)
  rw [← hW3.out]
  clear hW3
  have G03 := Lib.hid (G2.out.trans G3.out)
  have SL3 := Lib.hid (hlds_gr SL.out G3.out)
  clear SL G2 G3
  have EV := Lib.hid (right_iff.2 RI'.out)
  have TE : Hid (takeE l x = flt l x) := Lib.hid (takeE_flt EV.out (by omega))
  refine (take_any l x al cl _ SL3.out (by unfold Fit; omega) hcl XW.out).mono ?_
  rw [TE.out]
  rintro e W4 ⟨v4, rfl, ho4, hg4⟩
  have O4 := Lib.hid ho4
  have G4 := Lib.hid (G03.out.trans hg4)
  have SL4 := Lib.hid (hlds_gr SL3.out hg4)
  have R4 := Lib.hid (R3.out.gr hg4)
  clear ho4 hg4 SL3 R3 G03
  have e0 := R4.out.cell 0 (by simp)
  have e1 := R4.out.cell 1 (by simp)
  have e2 := R4.out.cell 2 (by simp)
  have eh := R4.out.has
  simp only [List.getElem_cons_zero, List.getElem_cons_succ] at e0 e1 e2
  obtain ⟨f, hfe⟩ : ∃ f, Hid (f = flt l x) := ⟨_, Lib.hid rfl⟩
  have FC : f = 0 ∨ f = 5 ∨ f = 40 := by rw [hfe.out]; exact flt_cases NRB.out
  rw [← hfe.out]
  go_wp2_with fail
  refine (users_any x.unit l al cl _ SL4.out (by omega)).mono ?_
  rintro e W5 ⟨v5, rfl, ho5, hg5⟩
  have UW := Lib.hid (users_wide WD.out x.unit)
  have UL := users_len l x.unit
  have UU : Hid (f = 5 → x.device ∈ usersL l x.unit) := Lib.hid fun q => flt_five (by rw [← hfe.out]; exact q)
  have UV : Hid (f = 40 → 0 < (usersL l x.unit).length) := Lib.hid fun q => flt_forty (by rw [← hfe.out]; exact q)
  have US : Hid (f = 0 → (usersL (l ++ [x]) x.unit).length = (usersL l x.unit).length + 1) := Lib.hid fun q => users_snoc (by rw [← hfe.out]; exact q)
  obtain ⟨us, hus⟩ : ∃ us, Hid (us = usersL l x.unit) := ⟨_, Lib.hid rfl⟩
  rw [← hus.out] at ho5 UW UL UU UV US
  obtain ⟨a5, c5, rfl, -, hown5⟩ := owns_ownN ho5
  have S5 := Lib.hid (hown5.slI UW.out)
  have G5 := Lib.hid (G4.out.trans hg5)
  have SL5 := Lib.hid (hlds_gr SL4.out hg5)
  have R5 := Lib.hid (R4.out.gr hg5)
  have O5 := Lib.hid (Gr.owns O4.out hg5)
  clear ho5 hg5 hown5 e0 e1 e2 eh SL4 R4 O4 G4
  have e0 := R5.out.cell 0 (by simp)
  have e1 := R5.out.cell 1 (by simp)
  have e2 := R5.out.cell 2 (by simp)
  have eh := R5.out.has
  simp only [List.getElem_cons_zero, List.getElem_cons_succ] at e0 e1 e2
  rcases FC with hf0 | hf5 | hf40
  · have F0 : Hid (flt l x = 0) := Lib.hid (by rw [← hfe.out]; exact hf0)
    have TP : Hid (takeP l x = l ++ [x]) := Lib.hid (takeP_yes (by rw [TE.out]; exact F0.out))
    have US0 := Lib.hid (US.out hf0)
    subst hf0
    obtain ⟨L', hL'⟩ : ∃ L', Hid (L' = l ++ [x]) := ⟨_, Lib.hid rfl⟩
    have LL1 : L'.length ≤ l.length + 1 := by rw [hL'.out]; simp
    have LL2 : l.length + 1 ≤ L'.length := by rw [hL'.out]; simp
    have LW : Hid (HsWide L') := Lib.hid (by
      rw [hL'.out]
      refine HsWide.of_mem fun y hy => ?_
      rcases List.mem_append.1 hy with q | q
      · exact WD.out.mem q
      · rw [List.mem_singleton.1 q]; exact XW.out)
    have DB := drop_back RI'.out (by omega) F0.out
    have DE := Lib.hid DB.1
    have DP := Lib.hid DB.2
    have VM := Lib.hid (users_in_snoc l x)
    have VA : Hid (x.kind = 2 → (usersL L' x.unit).length = 1) := Lib.hid fun q => by rw [hL'.out]; exact users_alone F0.out q
    have LX : Hid (∀ (hk : l.length < L'.length), L'[l.length] = x) := Lib.hid (snoc_at hL'.out)
    rw [TP.out, ← hL'.out] at O5
    rw [← hL'.out] at DE DP VM US0
    clear DB UU UV US TP
    obtain ⟨a4, c4, rfl, hc4, hown4⟩ := owns_ownN O5.out
    have S4 := Lib.hid (hown4.slH LW.out)
    clear hown4
    go_wp2_with fail
    refine (drop_any L' x a4 c4 _ S4.out (by unfold Fit; omega) hc4 XW.out).mono ?_
    rw [DE.out, DP.out]
    rintro e W6 ⟨v6, rfl, ho6, hg6⟩
    obtain ⟨a6, c6, rfl, -, hown6⟩ := owns_ownN ho6
    have S6 := Lib.hid (hown6.slH WD.out)
    have G6 := Lib.hid (G5.out.trans hg6)
    have SL6 := Lib.hid (hlds_gr SL5.out hg6)
    have S46 := Lib.hid (hlds_gr S4.out hg6)
    have R6 := Lib.hid (R5.out.gr hg6)
    clear ho6 hown6 hg6 e0 e1 e2 eh SL5 S4 R5 O5 G5
    have e0 := R6.out.cell 0 (by simp)
    have e1 := R6.out.cell 1 (by simp)
    have e2 := R6.out.cell 2 (by simp)
    have eh := R6.out.has
    simp only [List.getElem_cons_zero, List.getElem_cons_succ] at e0 e1 e2
    go_wp2_with fail
    refine (users_any x.unit L' a4 c4 _ S46.out (by omega)).mono ?_
    rintro e W7 ⟨v7, rfl, ho7, hg7⟩
    have VW := Lib.hid (users_wide LW.out x.unit)
    have VL := users_len L' x.unit
    obtain ⟨vs, hvs⟩ : ∃ vs, Hid (vs = usersL L' x.unit) := ⟨_, Lib.hid rfl⟩
    rw [← hvs.out] at ho7 VW VL VM VA US0
    obtain ⟨a7, c7, rfl, -, hown7⟩ := owns_ownN ho7
    have S7 := Lib.hid (hown7.slI VW.out)
    have G7 := Lib.hid (G6.out.trans hg7)
    have SL7 := Lib.hid (hlds_gr SL6.out hg7)
    have S47 := Lib.hid (hlds_gr S46.out hg7)
    have S67 := Lib.hid (hlds_gr S6.out hg7)
    have R7 := Lib.hid (R6.out.gr hg7)
    clear ho7 hown7 hg7 e0 e1 e2 eh SL6 S46 S6 R6 G6
    have e0 := R7.out.cell 0 (by simp)
    have e1 := R7.out.cell 1 (by simp)
    have e2 := R7.out.cell 2 (by simp)
    have eh := R7.out.has
    simp only [List.getElem_cons_zero, List.getElem_cons_succ] at e0 e1 e2
    obtain ⟨b4, o4, rfl, ⟨c0, -⟩, ⟨c1, -⟩, ⟨c2, -⟩⟩ := S47.out l.length (by omega)
    rw [LX.out (by omega)] at c0 c1 c2
    have ch := has_of_cell c0
    have US1 : vs.length ≤ us.length + 1 := by rw [US0.out]; exact Nat.le_refl _
    have US2 : us.length + 1 ≤ vs.length := by rw [US0.out]; exact Nat.le_refl _
    have k1 : ((L'.length : Int) != (l.length : Int) + 1) = false := by simp; omega
    have k2 : (0 : Int) ≤ l.length := by omega
    have k3 : (l.length : Int) < L'.length := by omega
    have k4 : ((vs.length : Int) != (us.length : Int) + 1) = false := by simp; omega
    have k5 : IntKind.i64.wrap ((l.length : Int) + 1) = (l.length : Int) + 1 := by rw [IntKind.wrap_i64]; omega
    have k6 : IntKind.i64.wrap ((us.length : Int) + 1) = (us.length : Int) + 1 := by rw [IntKind.wrap_i64]; omega
    have hn := neq_hold x.device x.kind x.unit x.device x.kind x.unit
    simp only [BEq.rfl, Bool.and_self, Bool.not_true] at hn
    go_wp2_with fail
    refine wp_region_grows (by kernel_rfl) (by kernel_rfl) ?_
    (try simp only [List.append_eq, List.cons_append, List.nil_append])
    repeat (go_big_quiet_step (first
      | (go_at_call 13; exact calls_grows (same_yes l a6 al c6 cl _ (hlds_gr S67.out (by repeat (first | with_reducible exact Gr.refl _ | with_reducible refine Gr.alloc _ ?_ | with_reducible refine Gr.xt _ _ ?_ | with_reducible refine Gr.drew ?_))) (hlds_gr SL7.out (by repeat (first | with_reducible exact Gr.refl _ | with_reducible refine Gr.alloc _ ?_ | with_reducible refine Gr.xt _ _ ?_ | with_reducible refine Gr.drew ?_))) (by unfold Fit; omega)))
      | (go_at_call 27; exact calls_grows (in_yes vs x.device a7 c7 _ (S7.out.giI (by repeat (first | with_reducible exact Gr.refl _ | with_reducible refine Gr.alloc _ ?_ | with_reducible refine Gr.xt _ _ ?_ | with_reducible refine Gr.drew ?_))) (by unfold Fit; omega) VM.out))))
    refine wpQuiet_nil ?_
    rintro _ ⟨⟨O8, d8⟩, rfl⟩
    clear k1 k4 k5 k6 hn c0 c1 c2 ch
    have kq : (x.kind != 2) = true ∨ ((x.kind != 2) = false ∧ vs.length = 1) := by
      rcases KX.out with q | q
      · left; rw [q]; rfl
      · right; exact ⟨by rw [q]; rfl, VA.out q⟩
    rcases kq with kq | ⟨kq, kv⟩
    · go_wp2_with fail
      refine (sane_any _).mono ?_
      rintro e W9 ⟨rfl, hg9⟩
      have G9 := Lib.hid (Gr.trans (G7.out.trans (by repeat (first | with_reducible exact Gr.refl _ | with_reducible refine Gr.alloc _ ?_ | with_reducible refine Gr.xt _ _ ?_ | with_reducible refine Gr.drew ?_))) hg9)
      clear hg9
      go_wp2_with fail
      go_ret
      exact ⟨rfl, G9.out⟩
    · rw [kv]
      clear kv
      go_wp2_with fail
      refine (sane_any _).mono ?_
      rintro e W9 ⟨rfl, hg9⟩
      have G9 := Lib.hid (Gr.trans (G7.out.trans (by repeat (first | with_reducible exact Gr.refl _ | with_reducible refine Gr.alloc _ ?_ | with_reducible refine Gr.xt _ _ ?_ | with_reducible refine Gr.drew ?_))) hg9)
      clear hg9
      go_wp2_with fail
      go_ret
      exact ⟨rfl, G9.out⟩
  · have UM := Lib.hid (UU.out hf5)
    subst hf5
    clear UU UV US
    go_wp2_with fail
    refine (in_yes us x.device a5 c5 _ S5.out (by unfold Fit; omega) UM.out).mono ?_
    rintro e W6 ⟨rfl, hg6⟩
    have G6 := Lib.hid (G5.out.trans hg6)
    clear hg6 e0 e1 e2 eh
    go_wp2_with fail
    refine (sane_any _).mono ?_
    rintro e W9 ⟨rfl, hg9⟩
    have G9 := Lib.hid (G6.out.trans hg9)
    clear hg9
    go_wp2_with fail
    go_ret
    exact ⟨rfl, G9.out⟩
  · have UM := UV.out hf40
    have um : (0 : Int) < us.length := by omega
    subst hf40
    clear UU UV US
    go_wp2_with fail
    refine (sane_any _).mono ?_
    rintro e W9 ⟨rfl, hg9⟩
    have G9 := Lib.hid (G5.out.trans hg9)
    clear hg9
    go_wp2_with fail
    go_ret
    exact ⟨rfl, G9.out⟩
end Go.Proofs.Ythpgoldahffbcaa

/- link.circle$1 and its search. -/
import Derived.Test.YtdjhnfopdlgliaaTfB
set_option linter.unusedVariables false
set_option linter.unusedSimpArgs false
namespace Go.Proofs.Ytdjhnfopdlgliaa
open Go.RowKit
open Classical

/-- What circle$1 reads. -/
structure CBox (w : World) (d : List Nat) (first at' FB QB AB DB : Nat) : Prop where
  f : w.cell? ⟨FB, 0, none⟩ = some (.int .i64 first)
  q : w.cell? ⟨QB, 0, none⟩ = some (.slice (some ⟨DB, 0, none⟩) d.length d.length)
  a : w.cell? ⟨AB, 0, none⟩ = some (.int .i64 at')
  row : Row w DB 3 (nums (ci d))
theorem CBox.gr {w w' : World} {d : List Nat} {first at' FB QB AB DB : Nat} (h : CBox w d first at' FB QB AB DB) (hg : Gr w w') : CBox w' d first at' FB QB AB DB :=
  ⟨cell_gr hg h.f, cell_gr hg h.q, cell_gr hg h.a, h.row.gr hg⟩
theorem backB_eq (d : List Nat) (first at' y : Nat) : backB d first at' (y : Int) = (decide ((first : Int) < (y : Int)) && decide (((d.getD y 0 : Nat) : Int) = ((d.getD at' 0 : Nat) : Int) - 1)) := by
  unfold backB
  rw [Int.toNat_natCast]
  congr 1
  apply decide_eq_decide.2
  omega
set_option maxHeartbeats 2000000 in
theorem cir1_any (d : List Nat) (first at' y FB QB AB DB : Nat) (w : World) (h : CBox w d first at' FB QB AB DB) (hl : d.length ≤ 120) (hm : ∀ x, d.getD x 0 ≤ 120) (hy : y < d.length) (ha : at' < d.length) :
    Calls Try.prog 28 #[.int .i64 y, .pointer (some ⟨FB, 0, none⟩), .pointer (some ⟨QB, 0, none⟩), .pointer (some ⟨AB, 0, none⟩)] w (Grows w (.bool (backB d first at' (y : Int)))) := by
  have E := Lib.hid (backB_eq d first at' y)
  obtain ⟨c1, c2, c3, hr⟩ := h
  have c4 := row_ci hr y hy
  have c5 := row_ci hr at' ha
  have m1 := hm y
  have m2 := hm at'
  rw [E.out]
  obtain ⟨u, hu⟩ : ∃ u, d.getD y 0 = u := ⟨_, rfl⟩
  obtain ⟨v, hv⟩ : ∃ v, d.getD at' 0 = v := ⟨_, rfl⟩
  rw [hu] at c4 m1 ⊢
  rw [hv] at c5 m2 ⊢
  have h1 := has_of_cell c1
  have h2 := has_of_cell c2
  have h3 := has_of_cell c3
  have h4 := has_of_cell c4
  have i1 : (y : Int) < d.length := by omega
  have i2 : (at' : Int) < d.length := by omega
  clear hu hv E hm hr
  by_cases q1 : first < y
  · have q1' : (first : Int) < (y : Int) := by omega
    go_enter Try.func28, Try.ntmps28
    go_wp2
    go_quiet (fail)
    go_wp2
    go_ret
    exact ⟨ret_bool (by simp only [decide_eq_true q1', Bool.true_and]; rfl), by repeat (first | with_reducible exact Gr.refl _ | with_reducible refine Gr.drewN _ ?_)⟩
  · have q1' : ¬ (first : Int) < (y : Int) := by omega
    have q2 : decide ((first : Int) < (y : Int)) = false := decide_eq_false q1'
    go_enter Try.func28, Try.ntmps28
    go_wp2
    go_quiet (fail)
    go_wp2
    go_ret
    exact ⟨ret_bool (by rw [q2]; rfl), by repeat (first | with_reducible exact Gr.refl _ | with_reducible refine Gr.drewN _ ?_)⟩
set_option maxRecDepth 100000 in
set_option maxHeartbeats 4000000 in
theorem idxC_any (ys : List Int) (d : List Nat) (first at' FB QB AB DB : Nat) (a : Option Addr) (cap : Nat) (w : World) (h : SlOf 1 RI w a ys) (hf : ys.length ≤ 7680) (hy : ∀ y ∈ ys, ∃ j : Nat, y = j ∧ j < d.length) (hb : CBox w d first at' FB QB AB DB) (hl : d.length ≤ 120) (hm : ∀ x, d.getD x 0 ≤ 120) (ha : at' < d.length) (z : Int) (hz : ys.find? (backB d first at') = some z) :
    Calls Try.prog 27 #[.slice a ys.length cap, .func (.func 28) #[] #[.pointer (some ⟨FB, 0, none⟩), .pointer (some ⟨QB, 0, none⟩), .pointer (some ⟨AB, 0, none⟩)]] w fun e w' => ∃ k : Nat, e = .returned (.int .i64 k) ∧ (∃ hk : k < ys.length, ys[k] = z) ∧ Gr w w' := by
  have H := Lib.hid h
  have HY := Lib.hid hy
  have HB := Lib.hid hb
  have HM := Lib.hid hm
  have HZ := Lib.hid hz
  clear h hy hb hm hz
  go_enter Try.func27, Try.ntmps27
  go_wp2_with fail
  go_loopw [8] (fun i wr => ∃ k : Nat, k ≤ ys.length ∧ i = .int .i64 k ∧ (∀ j (hj : j < k) (hjl : j < ys.length), backB d first at' ys[j] = false) ∧ Gr w wr) (fun i _ => ys.length - (intOf i).toNat)
  case atStart => exact ⟨0, Nat.zero_le _, rfl, fun j h => absurd h (by omega), Gr.refl _⟩
  case round =>
    obtain ⟨k, hk, rfl, hall, hg⟩ := hrel
    have HA := Lib.hid hall
    have HG := Lib.hid hg
    clear hall hg
    by_cases hlt : k < ys.length
    · obtain ⟨b, o, rfl, c0, _⟩ := (H.out.giI HG.out).one k hlt
      obtain ⟨y, hyk, hyl⟩ := HY.out ys[k] (List.getElem_mem hlt)
      have HYK := Lib.hid hyk
      rw [hyk] at c0
      have hh := has_of_cell c0
      have hc := cir1_any d first at' y FB QB AB DB wr (HB.out.gr HG.out) hl HM.out hyl ha
      have HC := Lib.hid hc
      clear hc hyk
      by_cases hv : backB d first at' (y : Int) = true
      · rw [hv] at HC
        have V := Lib.hid hv
        clear hv
        go_wp2_with (go_at_call 28; refine HC.out.mono ?_; rintro e w' ⟨rfl, O, dd, rfl⟩)
        go_ret
        refine ⟨k, rfl, ⟨hlt, ?_⟩, HG.out.xt _ _⟩
        obtain ⟨hp, l1, l2, hs, hn⟩ := List.find?_eq_some_iff_append.1 HZ.out
        have hp' : (backB d first at' z) = true := by simpa using hp
        have hidx : l1.length = k := by
          rcases Nat.lt_trichotomy l1.length k with q | q | q
          · have hl2 : l1.length < ys.length := by omega
            have e : ys[l1.length] = z := by simp [hs]
            have := HA.out l1.length q hl2
            rw [e, hp'] at this
            cases this
          · exact q
          · have e : ys[k] = l1[k] := by simp [hs, List.getElem_append_left q]
            have := hn l1[k] (List.getElem_mem q)
            rw [← e, HYK.out, V.out] at this
            cases this
        subst hidx
        simp [hs]
      · rw [Bool.not_eq_true] at hv
        rw [hv] at HC
        have V := Lib.hid hv
        clear hv
        go_wp2_with (go_at_call 28; refine HC.out.mono ?_; rintro e w' ⟨rfl, O, dd, rfl⟩)
        go_roundw
        case rel =>
          refine ⟨k + 1, by omega, by go_num, fun j hj hjl => ?_, HG.out.xt _ _⟩
          by_cases e : j = k
          · subst e; rw [HYK.out]; exact V.out
          · exact HA.out j (by omega) hjl
        case measure => simp [intOf]; omega
    · exfalso
      have hp := List.find?_some HZ.out
      obtain ⟨j, hj, e⟩ := List.getElem_of_mem (List.mem_of_find?_eq_some HZ.out)
      have := HA.out j (by omega) hj
      rw [e] at this
      simp [this] at hp
theorem row_owns {w : World} {B T size n base : Nat} {xs : List Value} (h : Row w B T xs) (hb : base ≤ B) (hx : xs.length = n * size) (hn : n ≤ maxLen) : w.ownsRow base T size (.slice (some ⟨B, 0, none⟩) n n) n xs :=
  ⟨hx, .inr ⟨B, n, xs.toArray, rfl, hb, h, Nat.le_refl _, hn, by simpa using hx, by rw [← hx]; simp⟩⟩
theorem circF_stop (gs : List (List Int)) (d : List Nat) (first f at' : Nat) (out : List Int) (h : ¬ 1 < d.getD at' 0) : circF gs d first f at' out = out := by
  cases f with
  | zero => rfl
  | succ f => rw [circF, if_neg h]
def GivesC (w : World) (c : List Int) (e : Ending) (w' : World) : Prop :=
  ∃ v, e = .returned v ∧ w'.ownsRow w.heap.size 3 1 v c.length (nums c) ∧ (∀ z ∈ c, Wide z) ∧ Gr w w'
set_option maxRecDepth 100000 in
set_option maxHeartbeats 8000000 in
theorem circle_any' (gs : List (List Int)) (first GB base : Nat) (vs : List Value) (w : World) (hga : GAt base w GB vs gs) (hin : InG gs.length gs) (hfi : first < gs.length) (hl : gs.length ≤ 120) (hr : ∀ g ∈ gs, g.length ≤ 7680) :
    Calls Try.prog 14 #[.slice (some ⟨GB, 0, none⟩) gs.length gs.length, .int .i64 first] w (GivesC w (circT gs first)) := by
  have GA := Lib.hid hga
  have IG := Lib.hid hin
  have RW := Lib.hid hr
  obtain ⟨i0, hi, hz0, hz1, hz2⟩ := info_parts infoInt
  clear hga hin hr
  go_enter Try.func14, Try.ntmps14
  go_wp2_with fail
  refine (dist_any gs first GB base vs _ (GA.out.gr ((Gr.refl _).alloc _)) IG.out hfi hl RW.out).mono ?_
  rintro e w1 ⟨DB, rfl, hrow, hdb, hg⟩
  obtain ⟨d, hd⟩ : ∃ d, distT gs first = d := ⟨_, rfl⟩
  have DF : Hid (DFin gs first d) := Lib.hid (by rw [← hd]; exact distT_fin gs first)
  have HD := Lib.hid hd
  rw [hd] at hrow ⊢
  have RD := Lib.hid hrow
  have HDB := Lib.hid hdb
  have HG := Lib.hid hg
  have RF := Lib.hid ((Row.new w #[.int .i64 first] 3).gr hg)
  have dl : d.length = gs.length := DF.out.ok.len
  have dm := DF.out.ok.max first
  have cf := row_ci hrow first (by rw [dl]; exact hfi)
  obtain ⟨u, hu⟩ : ∃ u, d.getD first 0 = u := ⟨_, rfl⟩
  have HU := Lib.hid hu
  rw [hu] at cf dm
  have hh1 := has_of_cell cf
  have ef : (first : Int) < d.length := by omega
  rw [dl] at ef ⊢
  obtain ⟨FB, hFB⟩ : ∃ N : Nat, Hid (w.heap.size = N) := ⟨_, Lib.hid rfl⟩
  rw [hFB.out] at RF ⊢
  have qf : w1.cell? ⟨FB, 0, none⟩ = some (.int .i64 first) := RF.out.cell 0 (by simp)
  have hh2 := has_of_cell qf
  clear hd hrow hdb hg dl hu
  rcases Nat.eq_zero_or_pos u with u0 | u0
  · subst u0
    have R : Hid (circT gs first = []) := Lib.hid (by unfold circT; rw [HD.out, if_pos HU.out])
    go_wp2_with fail
    go_ret
    rw [R.out]
    exact ⟨_, rfl, World.ownsRow_nil _ _ _ _, fun z h => by simp at h, ((((Gr.refl w).alloc _).trans HG.out).alloc _)⟩
  · have eu : ((u : Int) == 0) = false := by simp; omega
    have R : Hid (circT gs first = circF gs d first gs.length first [(first : Int)]) := Lib.hid (by unfold circT; rw [HD.out, if_neg (by rw [HU.out]; omega)])
    go_wp2_with fail
    have RQ := Lib.hid (Row.new w1 #[.slice (some ⟨DB, 0, none⟩) gs.length gs.length] 38)
    obtain ⟨W2, hW2⟩ : ∃ W : World, Hid (W = w1.alloc (.cells #[.slice (some ⟨DB, 0, none⟩) gs.length gs.length] 38)) := ⟨_, Lib.hid rfl⟩
    obtain ⟨QB, hQB⟩ : ∃ N : Nat, Hid (w1.heap.size = N) := ⟨_, Lib.hid rfl⟩
    have z2 : Hid (W2.heap.size = QB + 1) := Lib.hid (by rw [hW2.out]; simp [hQB.out])
    have RO := Lib.hid (Row.new W2 #[.int .i64 first] 3)
    have RA := Lib.hid (Row.new (W2.alloc (.cells #[.int .i64 first] 3)) #[.int .i64 first] 3)
    rw [World.size_alloc, z2.out] at RA
    rw [← hW2.out] at RQ ⊢
    rw [z2.out] at RO
    rw [hQB.out] at RQ ⊢
    have G2 : Hid (Gr w1 W2) := Lib.hid (by rw [hW2.out]; exact (Gr.refl _).alloc _)
    have GW : Hid (Gr w W2) := Lib.hid (((Gr.refl w).alloc _).trans (HG.out.trans G2.out))
    have B2 : Hid (W2.heap.size = QB + 1) := z2
    have RF2 := Lib.hid (RF.out.gr G2.out)
    have RD2 := Lib.hid (RD.out.gr G2.out)
    have GA2 := Lib.hid (GA.out.gr GW.out)
    have sw : Hid (w.heap.size ≤ QB + 1) := Lib.hid (by rw [← z2.out]; exact GW.out.size)
    have dl : d.length = gs.length := DF.out.ok.len
    have hU1 : Hid (d.getD first 0 = u) := HU
    have RO2 := Lib.hid (RO.out.alloc (.cells #[.int .i64 first] 3))
    clear hW2 cf hh1 hh2 qf RO z2
    go_loopg [6, 7] gs.length (fun g sl pt wr => ∃ (at' : Nat) (out : List Int) (AB : Nat), pt = .pointer (some ⟨AB, 0, none⟩) ∧ at' < gs.length ∧ first ≤ at' ∧ 1 ≤ d.getD at' 0 ∧ d.getD at' 0 ≤ g ∧ out.length + d.getD at' 0 ≤ 121 ∧ circT gs first = circF gs d first g at' out ∧ (∀ z ∈ out, Wide z) ∧ wr.ownsRow (QB + 1) 3 1 sl out.length (nums out) ∧ QB + 1 ≤ AB ∧ sl.ownBlock ≠ some AB ∧ Row wr AB 3 [.int .i64 at'] ∧ Gr W2 wr)
    case atStart =>
      refine ⟨first, [(first : Int)], QB + 1 + 1, rfl, hfi, Nat.le_refl _, by rw [hU1.out]; exact u0, by rw [hU1.out]; exact dm, by rw [hU1.out]; simp; omega, R.out, fun z h => by rw [List.mem_singleton.1 h]; unfold Wide; omega, ?_, by omega, by simp [Value.ownBlock], RA.out, ((Gr.refl _).alloc _).alloc _⟩
      exact row_owns (xs := nums [(first : Int)]) RO2.out (Nat.le_refl _) (by simp [nums]) (by unfold maxLen; simp)
    case round =>
      clear RA RO2
      obtain ⟨at', out, AB, rfl, hat, hfa, hd1, hdg, hol, hci, hwd, how, hab, hne, hra, hg⟩ := hrel
      obtain ⟨va, vc, rfl⟩ := owns_slice how
      have HCI := Lib.hid hci
      have WD := Lib.hid hwd
      have OW := Lib.hid how
      have NE := Lib.hid hne
      have RA := Lib.hid hra
      have HGR := Lib.hid hg
      have cat := row_ci (RD2.out.gr hg) at' (by rw [dl]; exact hat)
      have qq : wr.cell? ⟨QB, 0, none⟩ = some (.slice (some ⟨DB, 0, none⟩) gs.length gs.length) := (RQ.out.gr hg).cell 0 (by simp)
      have qa : wr.cell? ⟨AB, 0, none⟩ = some (.int .i64 at') := hra.cell 0 (by simp)
      have qf : wr.cell? ⟨FB, 0, none⟩ = some (.int .i64 first) := (RF2.out.gr hg).cell 0 (by simp)
      obtain ⟨v, hv⟩ : ∃ v, d.getD at' 0 = v := ⟨_, rfl⟩
      have HV := Lib.hid hv
      rw [hv] at cat hd1 hdg hol
      have k1 := has_of_cell cat
      have k2 := has_of_cell qq
      have k3 := has_of_cell qa
      have k4 := has_of_cell qf
      have ea : (at' : Int) < gs.length := by omega
      have HDG := Lib.hid hdg
      have HOL := Lib.hid hol
      clear hci hwd how hne hra hg hv hdg hol
      by_cases h1 : 1 < v
      · have e1 : (1 : Int) < v := by omega
        obtain ⟨y, hyz, hym, hyf, hyd⟩ := find_back DF.out hfa hat (by rw [HV.out]; exact h1)
        rw [HV.out] at hyd
        obtain ⟨ra, rc, hvi, hro⟩ := GA2.out.at hat
        obtain ⟨g, hgk⟩ : ∃ g, g = gs[at'] := ⟨_, rfl⟩
        have HGK := Lib.hid hgk
        rw [← hgk] at hvi hro
        have hgd : gs.getD at' [] = g := by rw [List.getD_eq_getElem?_getD, List.getElem?_eq_getElem hat]; exact hgk.symm
        have hinn : ∀ y ∈ g, ∃ j : Nat, y = j ∧ j < gs.length := IG.out g (by rw [hgk]; exact List.getElem_mem hat)
        rw [hgd] at hym hyz
        obtain ⟨yn, rfl, hyn⟩ := hinn y hym
        rw [Int.toNat_natCast] at hyd
        have hil : at' < vs.length := (List.getElem?_eq_some_iff.1 hvi).1
        have gk0 : wr.cell? ⟨GB, at', none⟩ = some (.slice ra g.length rc) := by rw [(GA2.out.gr HGR.out).row.cell at' hil]; exact congrArg some (List.getElem?_eq_some_iff.1 hvi).2
        have hgw : ∀ z ∈ g, Wide z := fun z hz => by obtain ⟨j, rfl, hj⟩ := hinn z hz; unfold Wide; omega
        obtain ⟨ra', rc', e', _, hsl⟩ := ints_at hro hgw
        cases e'
        have hgl : g.length ≤ 7680 := RW.out g (by rw [hgk]; exact List.getElem_mem hat)
        have k5 := has_of_cell gk0
        have SL := Lib.hid hsl
        have HC := Lib.hid (idxC_any g d first at' FB QB AB DB ra rc wr (hsl.giI HGR.out) hgl (by rw [dl]; exact hinn) ⟨qf, by rw [dl]; exact qq, qa, RD2.out.gr HGR.out⟩ (by rw [dl]; exact hl) (fun x => Nat.le_trans (DF.out.ok.max x) hl) (by rw [dl]; exact hat) _ hyz)
        obtain ⟨g1, hg1⟩ : ∃ g1, gk = g1 + 1 := ⟨gk - 1, by have := HDG.out; omega⟩
        have HG1 := Lib.hid hg1
        have NX : Hid (circT gs first = circF gs d first g1 yn (out ++ [(yn : Int)])) := Lib.hid (by rw [HCI.out, hg1, circF, if_pos (by rw [HV.out]; exact h1), hgd, hyz]; simp)
        have HYF := Lib.hid hyf
        have HYD := Lib.hid hyd
        have hyi : (yn : Int) < gs.length := by omega
        clear hg1 hyf hyd hyz hym hvi hro hgk hgd hinn hil hgw hsl
        go_wp2_with (first
          | (go_at_call 27; refine HC.out.mono ?_; rintro e w6 ⟨k, rfl, hkx, hg6⟩; obtain ⟨hk, hky⟩ := hkx; have G6 := Lib.hid (HGR.out.trans hg6); obtain ⟨xb, xo, rfl, c6, _⟩ := (SL.out.giI G6.out).one k hk; rw [hky] at c6; have c7 := cell_gr hg6 gk0; have c8 := cell_gr hg6 qa; have k6 := has_of_cell c6; have k7 := has_of_cell c7; have k8 := has_of_cell c8; have hk2 : (k : Int) < g.length := (by omega); have OWX := Lib.hid ((Gr.owns OW.out (hg6)).alloc (.cells #[.int .i64 yn] 3)); have RA6 := Lib.hid ((RA.out.gr hg6).alloc (.cells #[.int .i64 yn] 3)); have NR := Lib.hid (row_cells (Row.new w6 #[.int .i64 yn] 3)); have hs6 : QB + 1 ≤ w6.heap.size := (by rw [← B2.out]; exact G6.out.size); have GX := Lib.hid (G6.out.alloc (.cells #[.int .i64 yn] 3)); clear hg6 hky)
          | (at_builtin; refine wpList_append_own _ rfl _ _ 38 rfl (QB + 1) 3 i0 (.int .i64 0) 1 8 Try.underlying38 hi hz0 hz1 hz2 rfl (by decide) (.slice va out.length vc) out.length (nums out) rfl OWX.out ⟨w6.heap.size, 0, none⟩ 1 1 [.int .i64 yn] rfl rfl NR.out (by intro u hu; simp at hu; rw [hu]; rfl) (by unfold maxLen; have := HOL.out; omega) (by have := HOL.out; omega) (by simp; omega) ?_; intro v' wz hown' hgrow hnil; have HGz := Lib.hid hgrow; obtain ⟨gz, cz, rfl, hcz, hgb, hcc⟩ := owns_cell hown' (by omega); have HOz := Lib.hid hown'; have c9 : wz.cell? ⟨gz, out.length, none⟩ = some (.int .i64 yn) := (by rw [hcc out.length (by omega)]; simp [nums]); have RAz := Lib.hid (RA6.out.kept HGz.out (fun e => NE.out e.symm)); have c10 : wz.cell? ⟨AB, 0, none⟩ = some (.int .i64 at') := RAz.out.cell 0 (by simp); have k9 := has_of_cell c9; have k10 := has_of_cell c10; have hlx : (out.length : Int) < 122 := (by have := HOL.out; omega); clear hown' hgrow hnil hcc))
        have GZ : Gr W2 wz := GX.out.grown HGz.out (fun j e => by rw [B2.out]; exact (OWX.out.lt j e).1)
        have hown : wz.ownsRow (QB + 1) 3 1 (.slice (some ⟨gz, 0, none⟩) (out.length + 1) cz) (out ++ [(yn : Int)]).length (nums (out ++ [(yn : Int)])) := by
          have := HOz.out
          rw [List.length_append]
          simpa [nums] using this
        go_roundg g1
        case measure => have := HG1.out; omega
        case rel =>
          have y1 := HYD.out
          have y2 := HYF.out
          refine ⟨yn, out ++ [(yn : Int)], wz.heap.size, rfl, hyn, by omega, by omega, by have := HDG.out; have := HG1.out; omega, by rw [List.length_append]; have := HOL.out; simp only [List.length_cons, List.length_nil]; omega, NX.out, ?_, hown.alloc _, ?_, ?_, Row.new wz #[.int .i64 yn] 3, GZ.alloc _⟩
          · intro z hz
            rcases List.mem_append.1 hz with q | q
            · exact WD.out z q
            · rw [List.mem_singleton.1 q]; unfold Wide; omega
          · rw [← B2.out]; exact GZ.size
          · intro e
            have := (hown.lt _ e).2
            omega
      · have e1 : ¬ (1 : Int) < v := by omega
        have RR : Hid (circT gs first = out) := Lib.hid (by rw [HCI.out, circF_stop _ _ _ _ _ _ (by rw [HV.out]; exact h1)])
        go_wp2_with fail
        go_ret
        rw [RR.out]
        exact ⟨_, rfl, owns_low OW.out sw.out, WD.out, GW.out.trans HGR.out⟩
end Go.Proofs.Ytdjhnfopdlgliaa

/- Lemmas and contracts for the proof of ConformRepairs (several texts in one, printed by wip/tools/pack.py): WcD WcE WcF. -/
import Derived.Test.YtbpkndiecomggaaGreatDoorCr1pp
set_option maxRecDepth 100000
set_option maxHeartbeats 16000000
set_option linter.unusedVariables false
set_option linter.unusedSimpArgs false
namespace Go.Proofs.YtbpkndiecomggaaGreatDoor
open Go.RowKit
open Classical
theorem beq_t {a b : Int} (h : a = b) : (a == b) = true := by rw [beq_iff_eq]; exact h
theorem beq_f {a b : Int} (h : a ≠ b) : (a == b) = false := by rw [beq_eq_false_iff_ne]; exact h
theorem bne_f {a b : Int} (h : a = b) : (a != b) = false := by rw [bne, beq_t h]; rfl
theorem bne_t {a b : Int} (h : a ≠ b) : (a != b) = true := by rw [bne, beq_f h]; rfl
theorem celT {ts : Tr} {ta : Option Addr} {tc PT PB : Nat} {nm : St} {rq : Bool} {kd lo hi ct : Int} {ws : List St} {ra a : Option Addr} {rc n c : Nat} {L : List Int} {w W : World} {s0 s1 s2 s5 s6 s8 s9 s10 s11 s12 s13 s14 s15 s16 s17 s18 s19 s20 s21 s22 s23 s24 s25 s26 s27 s28 s29 s30 s31 s32 s33 s34 s35 s36 s37 s38 s39 s40 s41 s42 s43 s44 s45 s46 s47 s48 s49 s50 s51 s52 s53 : Value}
    (HT : Hid (SlOf 3 RNod W ta ts)) (HC : Hid (chkT ts = 0)) (G : Hid (Gr w W)) (RT : Hid (Row W PT 29 [.slice ta ts.length tc])) (RB : Hid (Row W PB 51 [.string (bs nm), .bool rq, .int .i64 kd, .int .i64 lo, .int .i64 hi, .int .i64 ct, .slice ra ws.length rc])) (HL : Hid (SlOf 1 RI W a L)) (HN : Hid (L.length = n ∧ 1 ≤ n ∧ n ≤ 1000)) :
    (tl 3 Tryz.f108).wp Tryz.prog (bodyPost Tryz.prog Tryz.f108 (Grows w (.int .i64 (if kd = 6 ∧ (phan ts (L.getD 0 0)).isNone = true then 5 else 0)))) { tmps := #[s0, s1, s2, .pointer (some ⟨PT, 0, none⟩), .pointer (some ⟨PB, 0, none⟩), s5, s6, .slice a n c, s8, s9, s10, s11, s12, s13, s14, s15, s16, s17, s18, s19, s20, s21, s22, s23, s24, s25, s26, s27, s28, s29, s30, s31, s32, s33, s34, s35, s36, s37, s38, s39, s40, s41, s42, s43, s44, s45, s46, s47, s48, s49, s50, s51, s52, s53], defers := [] } W := by
  obtain ⟨P0, hP0⟩ : ∃ P : Ending → World → Prop, P = Grows w (.int .i64 (if kd = 6 ∧ (phan ts (L.getD 0 0)).isNone = true then 5 else 0)) := ⟨_, rfl⟩
  rw [← hP0]
  have HP0 := Lib.hid hP0
  clear hP0
  obtain ⟨b, o, rfl, c0, _⟩ := HL.out.one 0 (by have := HN.out; omega)
  have L0 : L.getD 0 0 = L[0]'(by have := HN.out; omega) := by rw [List.getD_eq_getElem?_getD, List.getElem?_eq_getElem (by have := HN.out; omega)]; rfl
  rw [← L0] at c0
  have PC := Lib.hid (fun W2 (hg : Gr W W2) => phandle_any ts ta tc (L.getD 0 0) W2 (HT.out.gr RNod.mono hg) HC.out)
  obtain ⟨p, hp⟩ : ∃ p, L.getD 0 0 = p := ⟨_, rfl⟩
  rw [hp] at c0 PC HP0
  have hh := has_of_cell c0
  have n0 : (0 : Int) < (n : Int) := by have := HN.out; omega
  have x0 : W.cell? ⟨PT, 0, none⟩ = some (.slice ta ts.length tc) := RT.out.cell 0 (by simp)
  have hx := has_of_cell x0
  have b2 : W.cell? ⟨PB, 2, none⟩ = some (.int .i64 kd) := RB.out.cell 2 (by simp)
  have hb := has_of_cell b2
  clear hp L0
  simp only [Nat.zero_mul, Nat.add_zero] at c0
  obtain ⟨pk, hpk⟩ : ∃ pk, phan ts p = pk := ⟨_, rfl⟩
  rw [hpk] at PC HP0
  clear hpk
  simp only [tl, Tryz.f108, Option.map_some, Option.getD_some, sndN]
  by_cases h6 : kd = 6
  · have e6 := beq_t h6
    have H6 := Lib.hid h6
    clear h6
    cases pk with
    | none =>
      simp only [Option.getD_none, Option.isSome_none] at PC
      go_wp2_with fail
      refine wp_region_grows (by kernel_rfl) (by kernel_rfl) ?_
      repeat (go_big_quiet_step (first | (go_at_call 132; exact calls_grows (PC.out _ (by first | exact Gr.refl _ | exact (Gr.refl _).drewN _ | exact (Gr.refl _).xt _ _)))))
      refine wpQuiet_nil ?_
      rintro _ ⟨⟨O, d9⟩, rfl⟩
      go_wp2_with fail
      rw [HP0.out, if_pos ⟨H6.out, rfl⟩]
      exact ⟨rfl, G.out.xt _ _⟩
    | some j =>
      simp only [Option.getD_some, Option.isSome_some] at PC
      go_wp2_with fail
      refine wp_region_grows (by kernel_rfl) (by kernel_rfl) ?_
      repeat (go_big_quiet_step (first | (go_at_call 132; exact calls_grows (PC.out _ (by first | exact Gr.refl _ | exact (Gr.refl _).drewN _ | exact (Gr.refl _).xt _ _)))))
      refine wpQuiet_nil ?_
      rintro _ ⟨⟨O, d9⟩, rfl⟩
      go_wp2_with fail
      rw [HP0.out, if_neg (fun q => by cases q.2)]
      exact ⟨rfl, G.out.xt _ _⟩
  · have e6 := beq_f h6
    have H6 := Lib.hid h6
    clear h6
    go_wp2_with fail
    refine wp_region_grows (by kernel_rfl) (by kernel_rfl) ?_
    repeat (go_big_quiet_step (first | (go_at_call 132; exact calls_grows (PC.out _ (by first | exact Gr.refl _ | exact (Gr.refl _).drewN _ | exact (Gr.refl _).xt _ _)))))
    refine wpQuiet_nil ?_
    rintro _ ⟨⟨O, d9⟩, rfl⟩
    go_wp2_with fail
    rw [HP0.out, if_neg (fun q => H6.out q.1)]
    exact ⟨rfl, G.out.xt _ _⟩
theorem cCells_any (ts : Tr) (ta : Option Addr) (tc : Nat) (r : Rul) (ra : Option Addr) (rc : Nat) (v : St) (w : World) (h : SlOf 3 RNod w ta ts) (hc : chkT ts = 0) (hv : v.length ≤ 1000) :
    Calls Tryz.prog 108 #[.agg #[.slice ta ts.length tc], .agg #[.string (bs r.name), .bool r.req, .int .i64 r.kind, .int .i64 r.low, .int .i64 r.high, .int .i64 r.count, .slice ra r.words.length rc], .string (bs v)] w (Grows w (.int .i64 (celBad ts r v))) := by
  have H := Lib.hid h
  have HC := Lib.hid hc
  have HV := Lib.hid hv
  clear h hc hv
  obtain ⟨nm, rq, kd, lo, hi, ct, ws⟩ := r
  dsimp only
  obtain ⟨bad, hbad⟩ : ∃ bad, celBad ts ⟨nm, rq, kd, lo, hi, ct, ws⟩ v = bad := ⟨_, rfl⟩
  have BD : Hid (bad = if cellsOk v = false then 2 else if ct ≠ 0 ∧ ((cellsL v).length : Int) ≠ ct then 3 else if kd = 3 ∧ (cellsL v).any (fun n => decide (n < lo) || decide (hi < n)) = true then 4 else if kd = 6 ∧ (phan ts ((cellsL v).getD 0 0)).isNone = true then 5 else 0) := Lib.hid (by rw [← hbad]; rfl)
  rw [hbad]
  clear hbad
  obtain ⟨P0, hP0⟩ : ∃ P : Ending → World → Prop, P = Grows w (.int .i64 bad) := ⟨_, rfl⟩
  rw [← hP0]
  have HP0 := Lib.hid hP0
  clear hP0
  go_enter Tryz.func108, Tryz.ntmps108
  refine wp_cut 3 fun TT hT => ?_
  simp only [cutAt]
  go_upto_region 1 with (fail)
  have RT := Lib.hid ((Row.new w #[.slice ta ts.length tc] 29).alloc (.cells #[.string (bs nm), .bool rq, .int .i64 kd, .int .i64 lo, .int .i64 hi, .int .i64 ct, .slice ra ws.length rc] 51))
  have RB : Hid (Row ((w.alloc (.cells #[.slice ta ts.length tc] 29)).alloc (.cells #[.string (bs nm), .bool rq, .int .i64 kd, .int .i64 lo, .int .i64 hi, .int .i64 ct, .slice ra ws.length rc] 51)) (w.heap.size + 1) 51 [.string (bs nm), .bool rq, .int .i64 kd, .int .i64 lo, .int .i64 hi, .int .i64 ct, .slice ra ws.length rc]) := Lib.hid (by
    have q := Row.new (w.alloc (.cells #[.slice ta ts.length tc] 29)) #[.string (bs nm), .bool rq, .int .i64 kd, .int .i64 lo, .int .i64 hi, .int .i64 ct, .slice ra ws.length rc] 51
    have e : (w.alloc (.cells #[.slice ta ts.length tc] 29)).heap.size = w.heap.size + 1 := by simp
    rw [e] at q; exact q)
  obtain ⟨W, hW⟩ : ∃ W : World, Hid (W = (w.alloc (.cells #[.slice ta ts.length tc] 29)).alloc (.cells #[.string (bs nm), .bool rq, .int .i64 kd, .int .i64 lo, .int .i64 hi, .int .i64 ct, .slice ra ws.length rc] 51)) := ⟨_, Lib.hid rfl⟩
  have GW : Hid (Gr w W) := Lib.hid (by rw [hW.out]; exact ((Gr.refl _).alloc _).alloc _)
  rw [← hW.out] at RT RB ⊢
  obtain ⟨PT, hPT⟩ : ∃ N : Nat, Hid (w.heap.size = N) := ⟨_, Lib.hid rfl⟩
  rw [hPT.out] at RT RB ⊢
  clear hW hPT
  obtain ⟨PB, hPB⟩ : ∃ N : Nat, Hid (PT + 1 = N) := ⟨_, Lib.hid rfl⟩
  rw [hPB.out] at RB ⊢
  clear hPB
  go_wp2_with fail
  refine (cells_any v W (by have := HV.out; omega)).mono ?_
  intro e w1 hg
  by_cases hok : cellsOk v = true
  · unfold GivesCells at hg
    rw [if_pos hok] at hg
    obtain ⟨x, rfl, hx, hg1⟩ := hg
    obtain ⟨a, c, rfl, hcap, hsl⟩ := ints_at hx (cells_wide v)
    have SL := Lib.hid hsl
    have G1 := Lib.hid (GW.out.trans hg1)
    have RT1 := Lib.hid (RT.out.gr hg1)
    have RB1 := Lib.hid (RB.out.gr hg1)
    have LN : Hid (1 ≤ (cellsL v).length ∧ (cellsL v).length ≤ 1000) := Lib.hid (by
      have q := cellsL_length v
      unfold cellsOk at hok
      simp at hok
      have q2 : v.length ≠ 0 := by intro e; exact hok.1 (List.eq_nil_of_length_eq_zero e)
      have := HV.out
      omega)
    have BD2 : Hid (bad = if ct ≠ 0 ∧ ((cellsL v).length : Int) ≠ ct then 3 else if kd = 3 ∧ (cellsL v).any (fun n => decide (n < lo) || decide (hi < n)) = true then 4 else if kd = 6 ∧ (phan ts ((cellsL v).getD 0 0)).isNone = true then 5 else 0) := Lib.hid (by rw [BD.out, if_neg (by rw [hok]; simp)])
    obtain ⟨L, hL⟩ : ∃ L, cellsL v = L := ⟨_, rfl⟩
    rw [hL] at SL LN BD2 ⊢
    clear hx hsl hg1 hok hL BD hcap
    obtain ⟨n, hn⟩ : ∃ n : Nat, Hid (L.length = n) := ⟨_, Lib.hid rfl⟩
    have HNN : Hid (L.length = n ∧ 1 ≤ n ∧ n ≤ 1000) := Lib.hid ⟨hn.out, by have := LN.out; have := hn.out; omega, by have := LN.out; have := hn.out; omega⟩
    rw [hn.out] at BD2 ⊢
    have b2 : w1.cell? ⟨PB, 2, none⟩ = some (.int .i64 kd) := RB1.out.cell 2 (by simp)
    have b3 : w1.cell? ⟨PB, 3, none⟩ = some (.int .i64 lo) := RB1.out.cell 3 (by simp)
    have b4 : w1.cell? ⟨PB, 4, none⟩ = some (.int .i64 hi) := RB1.out.cell 4 (by simp)
    have b5 : w1.cell? ⟨PB, 5, none⟩ = some (.int .i64 ct) := RB1.out.cell 5 (by simp)
    have hb := has_of_cell b2
    have CI := Lib.hid (conI_any L PB lo hi a c w1 SL.out (by have := LN.out; omega) ⟨b3, b4⟩)
    rw [hn.out] at CI
    obtain ⟨q, hq⟩ : ∃ q : Bool, L.any (fun x => decide (x < lo) || decide (hi < x)) = q := ⟨_, rfl⟩
    rw [hq] at CI BD2
    clear hq
    have FIN : Hid (∀ W2 (e : Int), Gr w1 W2 → bad = (if kd = 6 ∧ (phan ts (L.getD 0 0)).isNone = true then 5 else 0) → True) := Lib.hid fun _ _ _ _ => trivial
    by_cases h0 : ct = 0
    · have z1 := bne_f h0
      have BD3 : Hid (bad = if kd = 3 ∧ q = true then 4 else if kd = 6 ∧ (phan ts (L.getD 0 0)).isNone = true then 5 else 0) := Lib.hid (by rw [BD2.out, if_neg (fun k => k.1 h0)])
      clear h0 BD2
      by_cases h3 : kd = 3
      · have z3 := beq_t h3
        cases q with
        | true =>
          have BD4 : Hid (bad = 4) := Lib.hid (by rw [BD3.out, if_pos ⟨h3, rfl⟩])
          clear h3
          go_wp2_with (go_at_call 130; refine CI.out.mono ?_; rintro e w' ⟨rfl, O, d, rfl⟩)
          rw [HP0.out, BD4.out]
          exact ⟨rfl, G1.out.xt _ _⟩
        | false =>
          have BD4 : Hid (bad = if kd = 6 ∧ (phan ts (L.getD 0 0)).isNone = true then 5 else 0) := Lib.hid (by rw [BD3.out, if_neg (fun k => by cases k.2)])
          clear h3
          go_wp2_with (go_at_call 130; refine CI.out.mono ?_; rintro e w' ⟨rfl, O, d, rfl⟩)
          rw [HP0.out, BD4.out]
          exact wp_at hT (by kernel_rfl) (celT (Lib.hid ((H.out.gr RNod.mono G1.out).gr RNod.mono ((Gr.refl _).xt O d))) HC (Lib.hid (G1.out.xt _ _)) (Lib.hid (RT1.out.xt _ _)) (Lib.hid (RB1.out.xt _ _)) (Lib.hid (SL.out.gr RI.mono ((Gr.refl _).xt O d))) HNN)
      · have z3 := beq_f h3
        have BD4 : Hid (bad = if kd = 6 ∧ (phan ts (L.getD 0 0)).isNone = true then 5 else 0) := Lib.hid (by rw [BD3.out, if_neg (fun k => h3 k.1)])
        clear h3
        go_wp2_with fail
        rw [HP0.out, BD4.out]
        exact wp_at hT (by kernel_rfl) (celT (Lib.hid (H.out.gr RNod.mono G1.out)) HC G1 RT1 RB1 SL HNN)
    · have z1 := bne_t h0
      by_cases hl : (n : Int) = ct
      · have z2 := bne_f hl
        have BD3 : Hid (bad = if kd = 3 ∧ q = true then 4 else if kd = 6 ∧ (phan ts (L.getD 0 0)).isNone = true then 5 else 0) := Lib.hid (by rw [BD2.out, if_neg (fun k => k.2 hl)])
        clear h0 BD2 hl
        by_cases h3 : kd = 3
        · have z3 := beq_t h3
          cases q with
          | true =>
            have BD4 : Hid (bad = 4) := Lib.hid (by rw [BD3.out, if_pos ⟨h3, rfl⟩])
            clear h3
            go_wp2_with (go_at_call 130; refine CI.out.mono ?_; rintro e w' ⟨rfl, O, d, rfl⟩)
            rw [HP0.out, BD4.out]
            exact ⟨rfl, G1.out.xt _ _⟩
          | false =>
            have BD4 : Hid (bad = if kd = 6 ∧ (phan ts (L.getD 0 0)).isNone = true then 5 else 0) := Lib.hid (by rw [BD3.out, if_neg (fun k => by cases k.2)])
            clear h3
            go_wp2_with (go_at_call 130; refine CI.out.mono ?_; rintro e w' ⟨rfl, O, d, rfl⟩)
            rw [HP0.out, BD4.out]
            exact wp_at hT (by kernel_rfl) (celT (Lib.hid ((H.out.gr RNod.mono G1.out).gr RNod.mono ((Gr.refl _).xt O d))) HC (Lib.hid (G1.out.xt _ _)) (Lib.hid (RT1.out.xt _ _)) (Lib.hid (RB1.out.xt _ _)) (Lib.hid (SL.out.gr RI.mono ((Gr.refl _).xt O d))) HNN)
        · have z3 := beq_f h3
          have BD4 : Hid (bad = if kd = 6 ∧ (phan ts (L.getD 0 0)).isNone = true then 5 else 0) := Lib.hid (by rw [BD3.out, if_neg (fun k => h3 k.1)])
          clear h3
          go_wp2_with fail
          rw [HP0.out, BD4.out]
          exact wp_at hT (by kernel_rfl) (celT (Lib.hid (H.out.gr RNod.mono G1.out)) HC G1 RT1 RB1 SL HNN)
      · have z2 := bne_t hl
        have BD3 : Hid (bad = 3) := Lib.hid (by rw [BD2.out, if_pos ⟨h0, hl⟩])
        clear h0 hl
        go_wp2_with fail
        rw [HP0.out, BD3.out]
        exact ⟨rfl, G1.out⟩
  · unfold GivesCells at hg
    rw [if_neg hok] at hg
    obtain ⟨rfl, hg1⟩ := hg
    have BD3 : Hid (bad = 2) := Lib.hid (by rw [BD.out, if_pos (by simpa using hok)])
    have G1 := Lib.hid (GW.out.trans hg1)
    clear hok hg1
    go_wp2_with fail
    rw [HP0.out, BD3.out]
    exact ⟨rfl, G1.out⟩
theorem strsP_pos {v : St} {l : List St} (h : strsP v = some l) : 1 ≤ l.length := by
  unfold strsP at h
  split at h
  · injection h with h
    rw [← h]
    exact split_ne _ _
  · cases h
theorem cTexts_any (r : Rul) (ra : Option Addr) (rc : Nat) (v : St) (w : World) (h : SlOf 1 RS w ra r.words) (hwl : r.words.length ≤ 1000000) (hv : v.length ≤ 1000) (hM : MaxV w) :
    Calls Tryz.prog 109 #[.agg #[.string (bs r.name), .bool r.req, .int .i64 r.kind, .int .i64 r.low, .int .i64 r.high, .int .i64 r.count, .slice ra r.words.length rc], .string (bs v)] w (Grows w (.int .i64 (txtBad r v))) := by
  have H := Lib.hid h
  have HM := Lib.hid hM
  have HV := Lib.hid hv
  have HWL := Lib.hid hwl
  clear h hM hv hwl
  obtain ⟨nm, rq, kd, lo, hi, ct, ws⟩ := r
  dsimp only at H HWL ⊢
  obtain ⟨bad, hbad⟩ : ∃ bad, txtBad ⟨nm, rq, kd, lo, hi, ct, ws⟩ v = bad := ⟨_, rfl⟩
  have BD : Hid (txtBad ⟨nm, rq, kd, lo, hi, ct, ws⟩ v = bad) := Lib.hid hbad
  rw [hbad]
  clear hbad
  obtain ⟨P0, hP0⟩ : ∃ P : Ending → World → Prop, P = Grows w (.int .i64 bad) := ⟨_, rfl⟩
  rw [← hP0]
  have HP0 := Lib.hid hP0
  clear hP0
  go_enter Tryz.func109, Tryz.ntmps109
  go_upto_region 1 with (fail)
  have RB := Lib.hid (Row.new w #[.string (bs nm), .bool rq, .int .i64 kd, .int .i64 lo, .int .i64 hi, .int .i64 ct, .slice ra ws.length rc] 51)
  obtain ⟨W, hW⟩ : ∃ W : World, Hid (W = w.alloc (.cells #[.string (bs nm), .bool rq, .int .i64 kd, .int .i64 lo, .int .i64 hi, .int .i64 ct, .slice ra ws.length rc] 51)) := ⟨_, Lib.hid rfl⟩
  have GW : Hid (Gr w W) := Lib.hid (by rw [hW.out]; exact (Gr.refl _).alloc _)
  rw [← hW.out] at RB ⊢
  obtain ⟨PB, hPB⟩ : ∃ N : Nat, Hid (w.heap.size = N) := ⟨_, Lib.hid rfl⟩
  rw [hPB.out] at RB ⊢
  clear hW hPB
  go_wp2_with fail
  refine (strings_any v W (by have := HV.out; omega) (HM.out.gr GW.out)).mono ?_
  intro e w1 hs
  cases hz : strsP v with
  | none =>
    rw [hz] at hs
    obtain ⟨hg, rfl⟩ := hs
    have B2 : Hid (bad = 2) := Lib.hid (by rw [← BD.out]; unfold txtBad; rw [hz])
    have G1 := Lib.hid (GW.out.trans hg)
    have RB1 := Lib.hid (RB.out.gr hg)
    have b2 : w1.cell? ⟨PB, 2, none⟩ = some (.int .i64 kd) := RB1.out.cell 2 (by simp)
    have b5 : w1.cell? ⟨PB, 5, none⟩ = some (.int .i64 ct) := RB1.out.cell 5 (by simp)
    have hb := has_of_cell b2
    clear hg hz
    by_cases h4 : kd = 4
    · have e4 := beq_t h4
      clear h4
      go_wp2_with fail
      rw [HP0.out, B2.out]
      exact ⟨rfl, G1.out⟩
    · have e4 := beq_f h4
      clear h4
      go_wp2_with fail
      rw [HP0.out, B2.out]
      exact ⟨rfl, G1.out⟩
  | some l =>
    rw [hz] at hs
    obtain ⟨hg, B, rfl, hr, hB⟩ := hs
    have LP : Hid (1 ≤ l.length ∧ l.length ≤ 2000) := Lib.hid ⟨strsP_pos hz, by have := strsP_len hz; have := HV.out; omega⟩
    have TB : Hid (bad = if cntR ⟨nm, rq, kd, lo, hi, ct, ws⟩ ≠ 0 ∧ (l.length : Int) ≠ cntR ⟨nm, rq, kd, lo, hi, ct, ws⟩ then 3 else if kd = 4 ∧ ws.contains (l.getD 0 []) = false then 4 else 0) := Lib.hid (by rw [← BD.out]; unfold txtBad; rw [hz])
    have G1 := Lib.hid (GW.out.trans hg)
    have RB1 := Lib.hid (RB.out.gr hg)
    have RL := Lib.hid hr
    have c0 := hr.cell 0 (by simp [strV]; have := LP.out; omega)
    rw [strV_get (by have := LP.out; omega)] at c0
    have hh := has_of_cell c0
    have L0 : l.getD 0 [] = l[0]'(by have := LP.out; omega) := by rw [List.getD_eq_getElem?_getD, List.getElem?_eq_getElem (by have := LP.out; omega)]; rfl
    rw [← L0] at c0
    obtain ⟨s, hs0⟩ : ∃ s, l.getD 0 [] = s := ⟨_, rfl⟩
    rw [hs0] at c0 TB
    have CS := Lib.hid (fun W2 (hg2 : Gr w1 W2) => conS_any ws s ra rc W2 ((H.out.giS G1.out).giS hg2) HWL.out)
    have QQ : Hid (ws.contains s = ws.any (fun x => s == x)) := Lib.hid List.contains_eq_any_beq
    obtain ⟨q, hq⟩ : ∃ q : Bool, ws.any (fun x => s == x) = q := ⟨_, rfl⟩
    rw [hq] at CS QQ
    have b2 : w1.cell? ⟨PB, 2, none⟩ = some (.int .i64 kd) := RB1.out.cell 2 (by simp)
    have b5 : w1.cell? ⟨PB, 5, none⟩ = some (.int .i64 ct) := RB1.out.cell 5 (by simp)
    have b6 : w1.cell? ⟨PB, 6, none⟩ = some (.slice ra ws.length rc) := RB1.out.cell 6 (by simp)
    have hb := has_of_cell b2
    obtain ⟨n, hn⟩ : ∃ n : Nat, Hid (l.length = n) := ⟨_, Lib.hid rfl⟩
    rw [hn.out] at TB ⊢
    have n0 : (0 : Int) < (n : Int) := by have := LP.out; have := hn.out; omega
    rw [QQ.out] at TB
    clear hg hr hz L0 hs0 hq QQ hB
    by_cases h4 : kd = 4
    · have e4 := beq_t h4
      have TB2 : Hid (bad = if (n : Int) ≠ 1 then 3 else if q = false then 4 else 0) := Lib.hid (by
        rw [TB.out]
        simp [cntR, h4])
      clear h4 TB
      by_cases h1 : (n : Int) = 1
      · have z1 := bne_f h1
        cases q with
        | true =>
          have B3 : Hid (bad = 0) := Lib.hid (by rw [TB2.out, if_neg (fun k => k h1), if_neg (by simp)])
          clear h1
          go_wp2_with fail
          refine wp_region_grows (by kernel_rfl) (by kernel_rfl) ?_
          repeat (go_big_quiet_step (first | (go_at_call 85; exact calls_grows (CS.out _ (by first | exact Gr.refl _ | exact (Gr.refl _).drewN _ | exact (Gr.refl _).xt _ _)))))
          refine wpQuiet_nil ?_
          rintro _ ⟨⟨O, d9⟩, rfl⟩
          go_wp2_with fail
          rw [HP0.out, B3.out]
          exact ⟨rfl, G1.out.xt _ _⟩
        | false =>
          have B3 : Hid (bad = 4) := Lib.hid (by rw [TB2.out, if_neg (fun k => k h1), if_pos rfl])
          clear h1
          go_wp2_with fail
          refine wp_region_grows (by kernel_rfl) (by kernel_rfl) ?_
          repeat (go_big_quiet_step (first | (go_at_call 85; exact calls_grows (CS.out _ (by first | exact Gr.refl _ | exact (Gr.refl _).drewN _ | exact (Gr.refl _).xt _ _)))))
          refine wpQuiet_nil ?_
          rintro _ ⟨⟨O, d9⟩, rfl⟩
          go_wp2_with fail
          rw [HP0.out, B3.out]
          exact ⟨rfl, G1.out.xt _ _⟩
      · have z1 := bne_t h1
        have B3 : Hid (bad = 3) := Lib.hid (by rw [TB2.out, if_pos h1])
        clear h1
        go_wp2_with fail
        rw [HP0.out, B3.out]
        exact ⟨rfl, G1.out⟩
    · have e4 := beq_f h4
      have TB2 : Hid (bad = if ct ≠ 0 ∧ (n : Int) ≠ ct then 3 else 0) := Lib.hid (by
        rw [TB.out]
        simp [cntR, h4])
      clear h4 TB
      by_cases h0 : ct = 0
      · have z0 := bne_f h0
        have B3 : Hid (bad = 0) := Lib.hid (by rw [TB2.out, if_neg (fun k => k.1 h0)])
        clear h0
        go_wp2_with fail
        refine wp_region_grows (by kernel_rfl) (by kernel_rfl) ?_
        repeat (go_big_quiet_step (first | (go_at_call 85; exact calls_grows (CS.out _ (by first | exact Gr.refl _ | exact (Gr.refl _).drewN _ | exact (Gr.refl _).xt _ _)))))
        refine wpQuiet_nil ?_
        rintro _ ⟨⟨O, d9⟩, rfl⟩
        go_wp2_with fail
        rw [HP0.out, B3.out]
        exact ⟨rfl, G1.out.xt _ _⟩
      · have z0 := bne_t h0
        by_cases h1 : (n : Int) = ct
        · have z1 := bne_f h1
          have B3 : Hid (bad = 0) := Lib.hid (by rw [TB2.out, if_neg (fun k => k.2 h1)])
          clear h0 h1
          go_wp2_with fail
          refine wp_region_grows (by kernel_rfl) (by kernel_rfl) ?_
          repeat (go_big_quiet_step (first | (go_at_call 85; exact calls_grows (CS.out _ (by first | exact Gr.refl _ | exact (Gr.refl _).drewN _ | exact (Gr.refl _).xt _ _)))))
          refine wpQuiet_nil ?_
          rintro _ ⟨⟨O, d9⟩, rfl⟩
          go_wp2_with fail
          rw [HP0.out, B3.out]
          exact ⟨rfl, G1.out.xt _ _⟩
        · have z1 := bne_t h1
          have B3 : Hid (bad = 3) := Lib.hid (by rw [TB2.out, if_pos ⟨h0, h1⟩])
          clear h0 h1
          go_wp2_with fail
          rw [HP0.out, B3.out]
          exact ⟨rfl, G1.out⟩
theorem cBroken_any (ts : Tr) (ta : Option Addr) (tc : Nat) (n : Nod) (a : Option Addr) (cap : Nat) (r : Rul) (ra : Option Addr) (rc : Nat) (w : World) (h : SlOf 3 RNod w ta ts) (hc : chkT ts = 0) (hnp : SlOf 2 RPrp w a n.props) (hn : NodOk n) (hw : SlOf 1 RS w ra r.words) (hwl : r.words.length ≤ 1000000) (hM : MaxV w) :
    Calls Tryz.prog 83 #[.agg #[.slice ta ts.length tc], .agg #[.int .i64 n.parent, .string (bs n.name), .slice a n.props.length cap], .agg #[.string (bs r.name), .bool r.req, .int .i64 r.kind, .int .i64 r.low, .int .i64 r.high, .int .i64 r.count, .slice ra r.words.length rc]] w (Grows w (.int .i64 (brkP ts n r))) := by
  have H := Lib.hid h
  have HC := Lib.hid hc
  have HNP := Lib.hid hnp
  have HN := Lib.hid hn
  have HW := Lib.hid hw
  have HWL := Lib.hid hwl
  have HM := Lib.hid hM
  clear h hc hnp hn hw hwl hM
  obtain ⟨bad, hbad⟩ : ∃ bad, brkP ts n r = bad := ⟨_, rfl⟩
  have BD : Hid (brkP ts n r = bad) := Lib.hid hbad
  rw [hbad]
  have CC := Lib.hid (fun (v : St) W2 (hg : Gr w W2) (hv : v.length ≤ 256) => cCells_any ts ta tc r ra rc v W2 (H.out.gr RNod.mono hg) HC.out (by omega))
  have CT := Lib.hid (fun (v : St) W2 (hg : Gr w W2) (hv : v.length ≤ 256) => cTexts_any r ra rc v W2 (HW.out.giS hg) HWL.out (by omega) (HM.out.gr hg))
  have PV := Lib.hid (fun W2 (hg : Gr w W2) => cProperty_any n a cap r.name W2 (HNP.out.gr RPrp.mono hg) (by have := HN.out.2.1; omega) HN.out.1)
  have VL := Lib.hid (HN.out.val r.name)
  have BD : Hid (bad = match valP n.props r.name with
    | none => if r.req = true then 1 else 0
    | some v => if r.kind = 1 then 0 else if r.kind = 3 ∨ r.kind = 6 then celBad ts r v else if r.kind = 5 ∨ r.kind = 4 then txtBad r v else if v = [] then 0 else 2) := Lib.hid (by rw [← hbad]; rfl)
  obtain ⟨cb, hcb⟩ : ∃ cb : St → Int, cb = celBad ts r := ⟨_, rfl⟩
  obtain ⟨tb, htb⟩ : ∃ tb : St → Int, tb = txtBad r := ⟨_, rfl⟩
  rw [← hcb] at BD CC
  rw [← htb] at BD CT
  clear hbad hcb htb
  obtain ⟨nm, rq, kd, lo, hi, ct, ws⟩ := r
  dsimp only at BD CC CT PV VL ⊢
  obtain ⟨o, ho⟩ : ∃ o, valP n.props nm = o := ⟨_, rfl⟩
  rw [ho] at BD PV VL
  clear ho
  obtain ⟨P0, hP0⟩ : ∃ P : Ending → World → Prop, P = Grows w (.int .i64 bad) := ⟨_, rfl⟩
  rw [← hP0]
  have HP0 := Lib.hid hP0
  clear hP0
  go_enter Tryz.func83, Tryz.ntmps83
  go_upto_region 1 with (fail)
  have e1 : (w.alloc (.cells #[.slice ta ts.length tc] 29)).heap.size = w.heap.size + 1 := by simp
  have e2 : ((w.alloc (.cells #[.slice ta ts.length tc] 29)).alloc (.cells #[.int .i64 n.parent, .string (bs n.name), .slice a n.props.length cap] 86)).heap.size = w.heap.size + 1 + 1 := by simp
  have RT := Lib.hid (((Row.new w #[.slice ta ts.length tc] 29).alloc (.cells #[.int .i64 n.parent, .string (bs n.name), .slice a n.props.length cap] 86)).alloc (.cells #[.string (bs nm), .bool rq, .int .i64 kd, .int .i64 lo, .int .i64 hi, .int .i64 ct, .slice ra ws.length rc] 51))
  have RN := Row.new (w.alloc (.cells #[.slice ta ts.length tc] 29)) #[.int .i64 n.parent, .string (bs n.name), .slice a n.props.length cap] 86
  rw [e1] at RN
  have RN := Lib.hid (RN.alloc (.cells #[.string (bs nm), .bool rq, .int .i64 kd, .int .i64 lo, .int .i64 hi, .int .i64 ct, .slice ra ws.length rc] 51))
  have RB := Row.new ((w.alloc (.cells #[.slice ta ts.length tc] 29)).alloc (.cells #[.int .i64 n.parent, .string (bs n.name), .slice a n.props.length cap] 86)) #[.string (bs nm), .bool rq, .int .i64 kd, .int .i64 lo, .int .i64 hi, .int .i64 ct, .slice ra ws.length rc] 51
  rw [e2] at RB
  have RB := Lib.hid RB
  clear e1 e2
  obtain ⟨W, hW⟩ : ∃ W : World, Hid (W = ((w.alloc (.cells #[.slice ta ts.length tc] 29)).alloc (.cells #[.int .i64 n.parent, .string (bs n.name), .slice a n.props.length cap] 86)).alloc (.cells #[.string (bs nm), .bool rq, .int .i64 kd, .int .i64 lo, .int .i64 hi, .int .i64 ct, .slice ra ws.length rc] 51)) := ⟨_, Lib.hid rfl⟩
  have GW : Hid (Gr w W) := Lib.hid (by rw [hW.out]; exact (((Gr.refl _).alloc _).alloc _).alloc _)
  rw [← hW.out] at RT RN RB ⊢
  obtain ⟨PT, hPT⟩ : ∃ N : Nat, Hid (w.heap.size = N) := ⟨_, Lib.hid rfl⟩
  rw [hPT.out] at RT RN RB ⊢
  clear hW hPT
  obtain ⟨PN, hPN⟩ : ∃ N : Nat, Hid (PT + 1 = N) := ⟨_, Lib.hid rfl⟩
  rw [hPN.out] at RN RB ⊢
  clear hPN
  obtain ⟨PB, hPB⟩ : ∃ N : Nat, Hid (PN + 1 = N) := ⟨_, Lib.hid rfl⟩
  rw [hPB.out] at RB ⊢
  clear hPB
  have n0 := RN.out.cell 0 (by simp)
  have n1 := RN.out.cell 1 (by simp)
  have n2 := RN.out.cell 2 (by simp)
  have b0 := RB.out.cell 0 (by simp)
  simp only [List.getElem_cons_zero, List.getElem_cons_succ] at n0 n1 n2 b0
  have hn := has_of_cell n0
  have hb := has_of_cell b0
  go_wp2_with fail
  refine (PV.out W GW.out).mono ?_
  intro e w1 hv
  obtain ⟨hg, rfl⟩ := hv.form
  have G1 := Lib.hid (GW.out.trans hg)
  have RT1 := Lib.hid (RT.out.gr hg)
  have RB1 := Lib.hid (RB.out.gr hg)
  have t0 := RT1.out.cell 0 (by simp)
  have b0 := RB1.out.cell 0 (by simp)
  have b1 := RB1.out.cell 1 (by simp)
  have b2 := RB1.out.cell 2 (by simp)
  have b3 := RB1.out.cell 3 (by simp)
  have b4 := RB1.out.cell 4 (by simp)
  have b5 := RB1.out.cell 5 (by simp)
  have b6 := RB1.out.cell 6 (by simp)
  simp only [List.getElem_cons_zero, List.getElem_cons_succ] at t0 b0 b1 b2 b3 b4 b5 b6
  have hb := has_of_cell b0
  have ht := has_of_cell t0
  clear hv hg n0 n1 n2 hn
  cases o with
  | none =>
    simp only [Option.getD_none, Option.isSome_none]
    cases rq with
    | true =>
      have B3 : Hid (bad = 1) := Lib.hid (by rw [BD.out]; rfl)
      go_wp2_with fail
      rw [HP0.out, B3.out]
      exact ⟨rfl, G1.out⟩
    | false =>
      have B3 : Hid (bad = 0) := Lib.hid (by rw [BD.out]; rfl)
      go_wp2_with fail
      rw [HP0.out, B3.out]
      exact ⟨rfl, G1.out⟩
  | some v =>
    simp only [Option.getD_some, Option.isSome_some] at VL ⊢
    dsimp only at BD
    by_cases k1 : kd = 1
    · have e1 := beq_t k1
      have B3 : Hid (bad = 0) := Lib.hid (by rw [BD.out, if_pos k1])
      clear k1
      go_wp2_with fail
      rw [HP0.out, B3.out]
      exact ⟨rfl, G1.out⟩
    · have e1 := beq_f k1
      by_cases k3 : kd = 3
      · have e3 := beq_t k3
        have B3 : Hid (bad = cb v) := Lib.hid (by rw [BD.out, if_neg k1, if_pos (.inl k3)])
        clear k1 k3
        go_wp2_with (go_at_call 108; refine (CC.out v w1 G1.out VL.out).mono ?_; rintro e w' ⟨rfl, O, d, rfl⟩)
        rw [HP0.out, B3.out]
        exact ⟨rfl, G1.out.xt _ _⟩
      · have e3 := beq_f k3
        by_cases k6 : kd = 6
        · have e6 := beq_t k6
          have B3 : Hid (bad = cb v) := Lib.hid (by rw [BD.out, if_neg k1, if_pos (.inr k6)])
          clear k1 k3 k6
          go_wp2_with (go_at_call 108; refine (CC.out v w1 G1.out VL.out).mono ?_; rintro e w' ⟨rfl, O, d, rfl⟩)
          rw [HP0.out, B3.out]
          exact ⟨rfl, G1.out.xt _ _⟩
        · have e6 := beq_f k6
          by_cases k5 : kd = 5
          · have e5 := beq_t k5
            have B3 : Hid (bad = tb v) := Lib.hid (by rw [BD.out, if_neg k1, if_neg (fun q => q.elim k3 k6), if_pos (.inl k5)])
            clear k1 k3 k6 k5
            go_wp2_with (go_at_call 109; refine (CT.out v w1 G1.out VL.out).mono ?_; rintro e w' ⟨rfl, O, d, rfl⟩)
            rw [HP0.out, B3.out]
            exact ⟨rfl, G1.out.xt _ _⟩
          · have e5 := beq_f k5
            by_cases k4 : kd = 4
            · have e4 := beq_t k4
              have B3 : Hid (bad = tb v) := Lib.hid (by rw [BD.out, if_neg k1, if_neg (fun q => q.elim k3 k6), if_pos (.inr k4)])
              clear k1 k3 k6 k5 k4
              go_wp2_with (go_at_call 109; refine (CT.out v w1 G1.out VL.out).mono ?_; rintro e w' ⟨rfl, O, d, rfl⟩)
              rw [HP0.out, B3.out]
              exact ⟨rfl, G1.out.xt _ _⟩
            · have e4 := beq_f k4
              by_cases hv0 : v = []
              · have B3 : Hid (bad = 0) := Lib.hid (by rw [BD.out, if_neg k1, if_neg (fun q => q.elim k3 k6), if_neg (fun q => q.elim k5 k4), if_pos hv0])
                have h0 : v.isEmpty = true := by rw [hv0]; rfl
                clear k1 k3 k6 k5 k4 hv0
                go_wp2_with fail
                rw [HP0.out, B3.out]
                exact ⟨rfl, G1.out⟩
              · have B3 : Hid (bad = 2) := Lib.hid (by rw [BD.out, if_neg k1, if_neg (fun q => q.elim k3 k6), if_neg (fun q => q.elim k5 k4), if_neg hv0])
                have h0 : v.isEmpty = false := by simpa using hv0
                clear k1 k3 k6 k5 k4 hv0
                go_wp2_with fail
                rw [HP0.out, B3.out]
                exact ⟨rfl, G1.out⟩
theorem infoVio : (Tryz.prog.info? 36).map (fun i => (i.zero, i.size, i.bytes)) = some (some (.agg #[.int .i64 0, .int .i64 0, .string (bs []), .string (bs [])]), 4, 48) := by kernel_rfl
theorem Vio.enc_one (x : Vio) : ∀ u ∈ x.enc, u.oneCell' = true := by
  intro u hu
  simp only [Vio.enc, List.mem_cons, List.not_mem_nil, or_false] at hu
  rcases hu with rfl | rfl | rfl | rfl <;> rfl
def VO (base : Nat) (w : World) (v : Value) (L : List Vio) : Prop := w.ownsRow base 36 4 v L.length (L.flatMap Vio.enc)
theorem VO.push {base : Nat} {w : World} {v : Value} {L : List Vio} {n : Nat} {y : Vio} (h : w.ownsRow base 36 4 v (n + 1) (L.flatMap Vio.enc ++ y.enc)) (hn : L.length = n) : VO base w v (L ++ [y]) := by
  unfold VO
  rw [List.length_append, hn, List.flatMap_append]
  simpa using h
theorem VO.form {base : Nat} {w : World} {v : Value} {L : List Vio} (h : VO base w v L) : ∃ a c, v = .slice a L.length c := owns_slice h
def StdV (w : World) : Prop := ∀ i (h : i < 7), w.cell? ⟨0, i, none⟩ = some (.string (bs (stdS[i]'h)))
theorem StdV.gr {w w' : World} (h : StdV w) (hg : Gr w w') : StdV w' := fun i hi => cell_gr hg (h i hi)
theorem StdV.sl {w : World} (h : StdV w) : SlOf 1 RS w (some ⟨0, 0, none⟩) stdS := fun k hk => by
  refine ⟨_, _, rfl, ?_, ?_⟩
  · rw [Nat.zero_add, Nat.mul_one]
    exact h k hk
  · have : ∀ z ∈ stdS, z.length ≤ 9223372036854775807 := by decide
    exact this _ (List.getElem_mem hk)
theorem fm_take {α β : Type} (f : α → Option β) {l : List α} {j : Nat} (h : j < l.length) : (l.take (j + 1)).filterMap f = (l.take j).filterMap f ++ (f l[j]).toList := by
  have e : [l[j]].filterMap f = (f l[j]).toList := by
    cases h2 : f l[j] <;> simp [List.filterMap_cons, h2]
  rw [List.take_succ_eq_append_getElem h, List.filterMap_append, e]
theorem GoodT.nodOk {ts : Tr} (h : GoodT ts) {k : Nat} (hk : k < ts.length) : NodOk ts[k] := ⟨h.asc hk, (h.big k hk).1, (h.big k hk).2⟩
def SchOk (l : List Sch) : Prop := l.length ≤ 1000000 ∧ ∀ s ∈ l, s.rules.length ≤ 16 ∧ ∀ r ∈ s.rules, r.words.length ≤ 1000000
theorem fm_le {α β : Type} (f : α → Option β) (l : List α) (j : Nat) : ((l.take j).filterMap f).length ≤ l.length := Nat.le_trans (List.length_filterMap_le _ _) (by rw [List.length_take]; omega)
theorem vioF_bound {ts : Tr} {l : List Sch} (h : GoodT ts) (hl : SchOk l) {k : Nat} (hk : k ≤ ts.length) : (vioF ts l k).length ≤ 5000 := by
  have h1 := vioF_few (ts := ts) (l := l) (a := 16) (b := 24) (fun s hs => (hl.2 s hs).1) (fun i hi => by rw [nd_get hi]; exact (h.big i hi).1) k hk
  have h2 := h.len.2
  omega
def GivesVio (L : List Vio) (w : World) (e : Ending) (w' : World) : Prop := ∃ v, e = .returned v ∧ VO w.heap.size w' v L ∧ Gr w w'
theorem vios_any (ts : Tr) (ta : Option Addr) (tc : Nat) (l : List Sch) (sa : Option Addr) (sc : Nat) (w : World) (h : SlOf 3 RNod w ta ts) (hc : chkT ts = 0) (hs : SlOf 3 RSch w sa l) (hso : SchOk l) (hM : MaxV w) (hV : StdV w) :
    Calls Tryz.prog 44 #[.agg #[.slice ta ts.length tc], .slice sa l.length sc] w (GivesVio (vioT ts l) w) := by
  have H := Lib.hid h
  have HC := Lib.hid hc
  have HS := Lib.hid hs
  have SO := Lib.hid hso
  have HM := Lib.hid hM
  have HV := Lib.hid hV
  have GT := Lib.hid (good_of hc)
  clear h hc hs hso hM hV
  obtain ⟨i0, hi, hz0, hz1, hz2⟩ := info_parts infoVio
  obtain ⟨P0, hP0⟩ : ∃ P : Ending → World → Prop, P = GivesVio (vioT ts l) w := ⟨_, rfl⟩
  rw [← hP0]
  have HP0 := Lib.hid hP0
  clear hP0
  go_enter Tryz.func44, Tryz.ntmps44
  go_upto_region 2 with (fail)
  have RT := Lib.hid (Row.new w #[.slice ta ts.length tc] 29)
  obtain ⟨W, hW⟩ : ∃ W : World, Hid (W = w.alloc (.cells #[.slice ta ts.length tc] 29)) := ⟨_, Lib.hid rfl⟩
  have GW : Hid (Gr w W) := Lib.hid (by rw [hW.out]; exact (Gr.refl _).alloc _)
  rw [← hW.out] at RT ⊢
  obtain ⟨PT, hPT⟩ : ∃ N : Nat, Hid (w.heap.size = N) := ⟨_, Lib.hid rfl⟩
  rw [hPT.out] at RT ⊢
  clear hW hPT
  obtain ⟨BB, hBB⟩ : ∃ N : Nat, Hid (W.heap.size = N) := ⟨_, Lib.hid rfl⟩
  obtain ⟨m, hm⟩ : ∃ N : Nat, Hid (ts.length = N) := ⟨_, Lib.hid rfl⟩
  have M120 : Hid (m ≤ 120) := Lib.hid (by rw [← hm.out]; exact GT.out.len.2)
  rw [hm.out] at RT ⊢
  have x0 := RT.out.cell 0 (by simp)
  have hx := has_of_cell x0
  have m120 := M120.out
  go_wp2_with fail
  clear x0 hx
  go_loopw [5, 21] (fun v i wr => ∃ k : Nat, i = .int .i64 (k : Int) ∧ k ≤ m ∧ VO BB wr v (vioF ts l k) ∧ Gr W wr) (fun _ i _ => m - (intOf i).toNat)
  case atStart => exact ⟨0, rfl, Nat.zero_le _, World.ownsRow_nil _ _ _ _, Gr.refl _⟩
  case round =>
    obtain ⟨k, rfl, hk, ho, hg⟩ := hrel
    obtain ⟨va, vc, rfl⟩ := ho.form
    have OX := Lib.hid ho
    have HG := Lib.hid hg
    clear ho hg
    by_cases hlt : k < m
    · have HLT := Lib.hid hlt
      have KW := Lib.hid (wrap_up (k := k) (by omega))
      have hkt : k < ts.length := by rw [hm.out]; exact hlt
      have NO := Lib.hid (GT.out.nodOk hkt)
      have LB : Hid ((vioF ts l k).length ≤ 5000) := Lib.hid (vioF_bound GT.out SO.out (Nat.le_of_lt hkt))
      have NX : Hid (vioF ts l (k + 1) = vioF ts l k ++ vioN ts l k ts[k]) := Lib.hid (by rw [vioF, nd_get hkt])
      obtain ⟨b, o, pa, pc, rfl, c0, c1, c2, hps, -, -, -⟩ := nods_at H.out k hkt
      replace c0 := cell_gr (GW.out.trans HG.out) c0
      replace c1 := cell_gr (GW.out.trans HG.out) c1
      replace c2 := cell_gr (GW.out.trans HG.out) c2
      obtain ⟨n, hn⟩ : ∃ n, ts[k] = n := ⟨_, rfl⟩
      rw [hn] at NO NX c0 c1 c2 hps
      have PS := Lib.hid hps
      obtain ⟨X, hX⟩ : ∃ X, vioF ts l k = X := ⟨_, rfl⟩
      rw [hX] at OX LB NX ⊢
      obtain ⟨nx, hnx⟩ : ∃ N : Nat, Hid (X.length = N) := ⟨_, Lib.hid rfl⟩
      rw [hnx.out] at ⊢
      have NB0 : Hid (nx ≤ 5000) := Lib.hid (by rw [← hnx.out]; exact LB.out)
      have hh := has_of_cell c0
      clear hkt hn hps hX
      have kmi : (k : Int) < (m : Int) := by omega
      go_upto_region 5 with (fail)
      have RN := Lib.hid (Row.new wr #[.int .i64 n.parent, .string (bs n.name), .slice pa n.props.length pc] 86)
      obtain ⟨W5, hW5⟩ : ∃ W : World, Hid (W = wr.alloc (.cells #[.int .i64 n.parent, .string (bs n.name), .slice pa n.props.length pc] 86)) := ⟨_, Lib.hid rfl⟩
      have G5 : Hid (Gr wr W5) := Lib.hid (by rw [hW5.out]; exact (Gr.refl _).alloc _)
      rw [← hW5.out] at RN ⊢
      obtain ⟨PN, hPN⟩ : ∃ N : Nat, Hid (wr.heap.size = N) := ⟨_, Lib.hid rfl⟩
      rw [hPN.out] at RN ⊢
      clear hW5 hPN c0 c1 c2 hh kmi
      have x0 := RN.out.cell 0 (by simp)
      have x1 := RN.out.cell 1 (by simp)
      have x2 := RN.out.cell 2 (by simp)
      simp only [List.getElem_cons_zero, List.getElem_cons_succ] at x0 x1 x2
      have hx := has_of_cell x0
      go_wp2_with fail
      refine (comp_any n pa pc W5 (PS.out.gr RPrp.mono ((GW.out.trans HG.out).trans G5.out)) NO.out ((HM.out.gr (GW.out.trans HG.out)).gr G5.out)).mono ?_
      rintro e w6 ⟨cv, rfl, hcv, hg6⟩
      obtain ⟨ca, rfl⟩ := hcv.form
      have CV := Lib.hid hcv
      have G6 := Lib.hid (G5.out.trans hg6)
      have RN6 := Lib.hid (RN.out.gr hg6)
      have VN : Hid (vioN ts l k n = match govP n l with
        | none => match compP n with
          | [] => []
          | c :: _ => [⟨7, k, c, []⟩]
        | some k2 => (l.getD k2 default).rules.filterMap (rulV ts k n (l.getD k2 default)) ++ n.props.filterMap (extV k (l.getD k2 default))) := Lib.hid rfl
      have GV := Lib.hid (fun W2 (hg : Gr w6 W2) => gov_any n pa pc l sa sc W2 (PS.out.gr RPrp.mono (((GW.out.trans HG.out).trans G6.out).trans hg)) NO.out (((HM.out.gr (GW.out.trans HG.out)).gr G6.out).gr hg) (HS.out.giC (((GW.out.trans HG.out).trans G6.out).trans hg)) SO.out.1)
      obtain ⟨cs, hcs⟩ : ∃ cs, compP n = cs := ⟨_, rfl⟩
      rw [hcs] at CV VN ⊢
      have CL : Hid (cs.length ≤ 1000) := Lib.hid (by rw [← hcs]; exact compP_len NO.out)
      clear hcv hg6 hcs x0 x1 x2 hx
      have x0 := RN6.out.cell 0 (by simp)
      have x1 := RN6.out.cell 1 (by simp)
      have x2 := RN6.out.cell 2 (by simp)
      simp only [List.getElem_cons_zero, List.getElem_cons_succ] at x0 x1 x2
      have hx := has_of_cell x0
      go_wp2_with fail
      refine (GV.out w6 (Gr.refl _)).mono ?_
      rintro e w7 ⟨rfl, hg7⟩
      have G7 := Lib.hid (G6.out.trans hg7)
      have RN7 := Lib.hid (RN6.out.gr hg7)
      have CV7 := Lib.hid (CV.out.gr hg7)
      have O7 : Hid (VO BB w7 (.slice va nx vc) X) := Lib.hid (by have := Gr.owns OX.out G7.out; rw [hnx.out] at this; unfold VO; rw [hnx.out]; exact this)
      have GA := Lib.hid (HG.out.trans G7.out)
      have SZ : Hid (BB ≤ w7.heap.size) := Lib.hid (by have := GA.out.size; have := hBB.out; omega)
      have OY : Hid (w7.ownsRow BB 36 4 (.slice va nx vc) nx (X.flatMap Vio.enc)) := Lib.hid (by have := O7.out; unfold VO at this; rwa [hnx.out] at this)
      clear hg7 x0 x1 x2 hx RN6 CV G6 RN G5 GV
      obtain ⟨gv, hgv⟩ : ∃ gv, govP n l = gv := ⟨_, rfl⟩
      have GVL := fun k2 (e : gv = some k2) => govF_lt (l := l) (cs := compP n) (k := k2) (by show govP n l = _; rw [hgv, e])
      rw [hgv] at VN ⊢
      clear hgv
      cases gv with
      | none =>
        have ev : govV none = .tuple #[.int .i64 0, .bool false] := rfl
        rw [ev]
        clear ev GVL
        dsimp only at VN
        cases cs with
        | nil =>
          have NX2 : Hid (vioF ts l (k + 1) = X) := Lib.hid (by rw [NX.out, VN.out]; simp)
          go_wp2_with fail
          go_roundw
          case rel => exact ⟨k + 1, by (try rw [KW.out]); simp, by have := HLT.out; omega, by rw [NX2.out]; exact O7.out, GA.out⟩
          case measure => (try rw [KW.out]); exact meas_up HLT.out
        | cons c cr =>
          obtain ⟨B, rfl, q0⟩ := CV7.out.at (k := 0) (by simp)
          simp only [List.getElem_cons_zero] at q0
          have NX2 : Hid (vioF ts l (k + 1) = X ++ [⟨7, k, c, []⟩]) := Lib.hid (by rw [NX.out, VN.out])
          have hq := has_of_cell q0
          have NB := Lib.hid (show nx ≤ 6000 by have := NB0.out; omega)
          have cl := CL.out
          have OA := Lib.hid (Gr.owns OY.out ((Gr.refl w7).alloc (.cells #[.int .i64 7, .int .i64 (k : Int), .string (bs c), .string (bs [])] 36)))
          have NR := Lib.hid (row_cells (Row.new w7 #[.int .i64 7, .int .i64 (k : Int), .string (bs c), .string (bs [])] 36))
          go_wp2_with (at_builtin; refine wpList_append_own _ rfl _ _ 31 rfl BB 36 i0 (.agg #[.int .i64 0, .int .i64 0, .string (bs []), .string (bs [])]) 4 48 Tryz.underlying31 hi hz0 hz1 hz2 rfl (by decide) _ nx ((X).flatMap Vio.enc) rfl OA.out ⟨(w7).heap.size, 0, none⟩ 1 1 (Vio.enc ⟨7, k, c, []⟩) rfl rfl NR.out (Vio.enc_one _) (by unfold maxLen; have := NB.out; omega) (by have := NB.out; omega) (by have := SZ.out; simp; omega) ?_; intro v' wz hown' hgrow hnil; have HOz := Lib.hid hown'; have HGz := Lib.hid hgrow; clear hown' hgrow hnil)
          have O8 := Lib.hid (VO.push (y := ⟨7, k, c, []⟩) HOz.out hnx.out)
          have G8 := Lib.hid (((GA.out).alloc (.cells #[.int .i64 7, .int .i64 (k : Int), .string (bs c), .string (bs [])] 36)).grown HGz.out (fun j e => by have := (owns_block OA.out j e).1; have := hBB.out; omega))
          clear OA NR HOz HGz
          go_roundw
          case rel => exact ⟨k + 1, by (try rw [KW.out]); simp, by have := HLT.out; omega, by rw [NX2.out]; exact O8.out, G8.out⟩
          case measure => (try rw [KW.out]); exact meas_up HLT.out
      | some k2 =>
        have ev : govV (some k2) = .tuple #[.int .i64 (k2 : Int), .bool true] := rfl
        rw [ev]
        have k2l := GVL k2 rfl
        clear ev GVL
        dsimp only at VN
        have e0 : l.getD k2 default = l[k2] := by rw [List.getD_eq_getElem?_getD, List.getElem?_eq_getElem k2l]; rfl
        rw [e0] at VN
        obtain ⟨sb, so2, ra, rc, rfl, d0, d1, d2, hrs⟩ := schs_at HS.out k2 k2l
        replace d0 := cell_gr (GW.out.trans GA.out) d0
        replace d1 := cell_gr (GW.out.trans GA.out) d1
        replace d2 := cell_gr (GW.out.trans GA.out) d2
        have SRO := Lib.hid (SO.out.2 _ (List.getElem_mem k2l))
        have LI : Hid (l.length ≤ 1000000) := Lib.hid SO.out.1
        obtain ⟨s, hs⟩ : ∃ s, l[k2] = s := ⟨_, rfl⟩
        rw [hs] at VN d0 d1 d2 hrs SRO
        have k2i : (k2 : Int) < (l.length : Int) := by omega
        have hh := has_of_cell d0
        have RUL := Lib.hid hrs
        clear e0 hs hrs k2l
        obtain ⟨rn, hrn0⟩ : ∃ N : Nat, Hid (s.rules.length = N) := ⟨_, Lib.hid rfl⟩
        have RN16 : Hid (rn ≤ 16) := Lib.hid (by rw [← hrn0.out]; exact SRO.out.1)
        rw [hrn0.out] at d2
        go_upto_region 11 with (fail)
        have PSR := Lib.hid (Row.new w7 #[.string (bs s.comp), .bool s.closed, .slice ra rn rc] 48)
        obtain ⟨W8, hW8⟩ : ∃ W : World, Hid (W = w7.alloc (.cells #[.string (bs s.comp), .bool s.closed, .slice ra rn rc] 48)) := ⟨_, Lib.hid rfl⟩
        have G8 : Hid (Gr w7 W8) := Lib.hid (by rw [hW8.out]; exact (Gr.refl _).alloc _)
        rw [← hW8.out] at PSR ⊢
        obtain ⟨PS2, hPS⟩ : ∃ N : Nat, Hid (w7.heap.size = N) := ⟨_, Lib.hid rfl⟩
        rw [hPS.out] at PSR ⊢
        clear hW8 hPS d0 d1 d2 hh k2i
        have O8 : Hid (VO BB W8 (.slice va nx vc) X) := Lib.hid (Gr.owns O7.out G8.out)
        have RN8 := Lib.hid (RN7.out.gr G8.out)
        have GA8 := Lib.hid (GA.out.trans G8.out)
        have NX2 : Hid (vioF ts l (k + 1) = X ++ s.rules.filterMap (rulV ts k n s) ++ n.props.filterMap (extV k s)) := Lib.hid (by rw [NX.out, VN.out, List.append_assoc])
        have s2 := PSR.out.cell 2 (by simp)
        simp only [List.getElem_cons_zero, List.getElem_cons_succ] at s2
        have hs2 := has_of_cell s2
        have rn16 := RN16.out
        clear OX HG G7 CV7 O7 GA SZ OY RN7 G8
        obtain ⟨wo, hwo⟩ : ∃ wo, wo = wr := ⟨_, rfl⟩
        subst hwo
        go_wp2_with fail
        clear s2 hs2
        go_loopw [5, 54] (fun v i wr => ∃ j : Nat, i = .int .i64 (j : Int) ∧ j ≤ rn ∧ VO BB wr v (X ++ (s.rules.take j).filterMap (rulV ts k n s)) ∧ Row wr PN 86 [.int .i64 n.parent, .string (bs n.name), .slice pa n.props.length pc] ∧ Row wr PS2 48 [.string (bs s.comp), .bool s.closed, .slice ra rn rc] ∧ Gr W wr) (fun _ i _ => rn - (intOf i).toNat)
        case atStart => exact ⟨0, rfl, Nat.zero_le _, by rw [List.take_zero, List.filterMap_nil, List.append_nil]; exact O8.out, RN8.out, PSR.out, GA8.out⟩
        case round =>
          clear O8 RN8 PSR GA8
          obtain ⟨j, rfl, hj, ho, hrn, hrs2, hg⟩ := hrel
          obtain ⟨vd, ve, rfl⟩ := ho.form
          have HG2 := Lib.hid hg
          have RN1 := Lib.hid hrn
          have RS1 := Lib.hid hrs2
          have O1 := Lib.hid ho
          clear hrn hrs2 hg ho
          by_cases hjl : j < rn
          · have JL := Lib.hid hjl
            have JW := Lib.hid (wrap_up (k := j) (by have := RN16.out; omega))
            have hjr : j < s.rules.length := by rw [hrn0.out]; exact hjl
            obtain ⟨rb, ro, wa, wc, e9, c0, c1, c2, c3, c4, c5, c6, hwd⟩ := ruls_at (RUL.out.giU (GW.out.trans HG2.out)) j hjr
            have WL : Hid (s.rules[j].words.length ≤ 1000000) := Lib.hid (SRO.out.2 _ (List.getElem_mem hjr))
            have FT := Lib.hid (fm_take (rulV ts k n s) hjr)
            obtain ⟨r, hr⟩ : ∃ r, s.rules[j] = r := ⟨_, rfl⟩
            rw [hr] at c0 c1 c2 c3 c4 c5 c6 hwd WL FT
            have WD := Lib.hid hwd
            have hh := has_of_cell c0
            have jli : (j : Int) < (rn : Int) := by omega
            subst e9
            clear hr hwd hjr
            obtain ⟨Y, hY⟩ : ∃ Y, X ++ (s.rules.take j).filterMap (rulV ts k n s) = Y := ⟨_, rfl⟩
            have YB : Hid (Y.length ≤ 5100) := Lib.hid (by rw [← hY, List.length_append]; have := LB.out; have := fm_le (rulV ts k n s) s.rules j; have := RN16.out; have := hrn0.out; omega)
            have YX : Hid (X ++ (s.rules.take (j + 1)).filterMap (rulV ts k n s) = Y ++ (rulV ts k n s r).toList) := Lib.hid (by rw [FT.out, ← List.append_assoc, hY])
            rw [hY] at O1 ⊢
            clear hY FT
            obtain ⟨ny, hny⟩ : ∃ N : Nat, Hid (Y.length = N) := ⟨_, Lib.hid rfl⟩
            have NB : Hid (ny ≤ 6000) := Lib.hid (by have := YB.out; have := hny.out; omega)
            rw [hny.out] at ⊢
            go_upto_region 14 with (fail)
            have RB := Lib.hid (Row.new wr #[.string (bs r.name), .bool r.req, .int .i64 r.kind, .int .i64 r.low, .int .i64 r.high, .int .i64 r.count, .slice wa r.words.length wc] 51)
            obtain ⟨W9, hW9⟩ : ∃ W : World, Hid (W = wr.alloc (.cells #[.string (bs r.name), .bool r.req, .int .i64 r.kind, .int .i64 r.low, .int .i64 r.high, .int .i64 r.count, .slice wa r.words.length wc] 51)) := ⟨_, Lib.hid rfl⟩
            have G9 : Hid (Gr wr W9) := Lib.hid (by rw [hW9.out]; exact (Gr.refl _).alloc _)
            rw [← hW9.out] at RB ⊢
            obtain ⟨PB, hPB⟩ : ∃ N : Nat, Hid (wr.heap.size = N) := ⟨_, Lib.hid rfl⟩
            rw [hPB.out] at RB ⊢
            clear hW9 hPB c0 c1 c2 c3 c4 c5 c6 hh jli
            have RN9 := Lib.hid (RN1.out.gr G9.out)
            have RT9 := Lib.hid (RT.out.gr (HG2.out.trans G9.out))
            have x0 := RN9.out.cell 0 (by simp)
            have x1 := RN9.out.cell 1 (by simp)
            have x2 := RN9.out.cell 2 (by simp)
            simp only [List.getElem_cons_zero, List.getElem_cons_succ] at x0 x1 x2
            have y0 := RB.out.cell 0 (by simp)
            have y1 := RB.out.cell 1 (by simp)
            have y2 := RB.out.cell 2 (by simp)
            have y3 := RB.out.cell 3 (by simp)
            have y4 := RB.out.cell 4 (by simp)
            have y5 := RB.out.cell 5 (by simp)
            have y6 := RB.out.cell 6 (by simp)
            simp only [List.getElem_cons_zero, List.getElem_cons_succ] at y0 y1 y2 y3 y4 y5 y6
            have t0 := RT9.out.cell 0 (by simp)
            simp only [List.getElem_cons_zero] at t0
            have hx := has_of_cell x0
            have hy := has_of_cell y0
            have ht := has_of_cell t0
            have BC := cBroken_any ts (some ⟨b, o, none⟩) tc n pa pc r wa wc W9 (H.out.gr RNod.mono (GW.out.trans (HG2.out.trans G9.out))) HC.out (PS.out.gr RPrp.mono (GW.out.trans (HG2.out.trans G9.out))) NO.out (WD.out.giS G9.out) WL.out (HM.out.gr (GW.out.trans (HG2.out.trans G9.out)))
            rw [hm.out] at BC
            have BC := Lib.hid BC
            have RV : Hid (rulV ts k n s r = if brkP ts n r = 0 then none else some ⟨brkP ts n r, k, s.comp, r.name⟩) := Lib.hid rfl
            obtain ⟨bad, hbad⟩ : ∃ bad, brkP ts n r = bad := ⟨_, rfl⟩
            rw [hbad] at BC RV
            clear hbad
            go_wp2_with fail
            refine BC.out.mono ?_
            rintro e w10 ⟨rfl, hg10⟩
            have G10 := Lib.hid (G9.out.trans hg10)
            have RN2 := Lib.hid (RN1.out.gr G10.out)
            have RS2 := Lib.hid (RS1.out.gr G10.out)
            have RB2 := Lib.hid (RB.out.gr hg10)
            have GA2 := Lib.hid (HG2.out.trans G10.out)
            have O2 := Lib.hid (Gr.owns O1.out G10.out)
            have OY2 : Hid (w10.ownsRow BB 36 4 (.slice vd ny ve) ny (Y.flatMap Vio.enc)) := Lib.hid (by have := O2.out; rwa [hny.out] at this)
            have SZ : Hid (BB ≤ w10.heap.size) := Lib.hid (by have := GA2.out.size; have := hBB.out; omega)
            clear hg10 x0 x1 x2 y0 y1 y2 y3 y4 y5 y6 t0 hx hy ht BC
            by_cases hz : bad = 0
            · have z1 := bne_f hz
              have E1 : Hid (X ++ (s.rules.take (j + 1)).filterMap (rulV ts k n s) = Y) := Lib.hid (by rw [YX.out, RV.out, if_pos hz]; simp)
              have O3 : Hid (VO BB w10 (.slice vd ny ve) Y) := Lib.hid (by unfold VO; rw [hny.out]; exact OY2.out)
              clear hz
              go_wp2_with fail
              go_roundw
              case rel => exact ⟨j + 1, by (try rw [JW.out]); simp, by have := JL.out; omega, by rw [E1.out]; exact O3.out, RN2.out, RS2.out, GA2.out⟩
              case measure => (try rw [JW.out]); exact meas_up JL.out
            · have z1 := bne_t hz
              have E1 : Hid (X ++ (s.rules.take (j + 1)).filterMap (rulV ts k n s) = Y ++ [⟨bad, k, s.comp, r.name⟩]) := Lib.hid (by rw [YX.out, RV.out, if_neg hz]; rfl)
              clear hz
              have s0 := RS2.out.cell 0 (by simp)
              have r0 := RB2.out.cell 0 (by simp)
              simp only [List.getElem_cons_zero] at s0 r0
              have hs0 := has_of_cell s0
              have hr0 := has_of_cell r0
              have OA := Lib.hid (Gr.owns OY2.out ((Gr.refl w10).alloc (.cells #[.int .i64 bad, .int .i64 (k : Int), .string (bs s.comp), .string (bs r.name)] 36)))
              have NR := Lib.hid (row_cells (Row.new w10 #[.int .i64 bad, .int .i64 (k : Int), .string (bs s.comp), .string (bs r.name)] 36))
              go_wp2_with (at_builtin; refine wpList_append_own _ rfl _ _ 31 rfl BB 36 i0 (.agg #[.int .i64 0, .int .i64 0, .string (bs []), .string (bs [])]) 4 48 Tryz.underlying31 hi hz0 hz1 hz2 rfl (by decide) _ ny ((Y).flatMap Vio.enc) rfl OA.out ⟨(w10).heap.size, 0, none⟩ 1 1 (Vio.enc ⟨bad, k, s.comp, r.name⟩) rfl rfl NR.out (Vio.enc_one _) (by unfold maxLen; have := NB.out; omega) (by have := NB.out; omega) (by have := SZ.out; simp; omega) ?_; intro v' wz hown' hgrow hnil; have HOz := Lib.hid hown'; have HGz := Lib.hid hgrow; clear hown' hgrow hnil)
              have O3 := Lib.hid (VO.push (y := ⟨bad, k, s.comp, r.name⟩) HOz.out hny.out)
              have G3 := Lib.hid ((GA2.out.alloc (.cells #[.int .i64 bad, .int .i64 (k : Int), .string (bs s.comp), .string (bs r.name)] 36)).grown HGz.out (fun j e => by have := (owns_block OA.out j e).1; have := hBB.out; omega))
              have RN3 := Lib.hid ((RN2.out.alloc (.cells #[.int .i64 bad, .int .i64 (k : Int), .string (bs s.comp), .string (bs r.name)] 36)).kept HGz.out ((RN2.out.alloc (.cells #[.int .i64 bad, .int .i64 (k : Int), .string (bs s.comp), .string (bs r.name)] 36)).ty.ne OA.out (by decide)))
              have RS3 := Lib.hid ((RS2.out.alloc (.cells #[.int .i64 bad, .int .i64 (k : Int), .string (bs s.comp), .string (bs r.name)] 36)).kept HGz.out ((RS2.out.alloc (.cells #[.int .i64 bad, .int .i64 (k : Int), .string (bs s.comp), .string (bs r.name)] 36)).ty.ne OA.out (by decide)))
              clear OA NR HOz HGz s0 r0 hs0 hr0
              go_roundw
              case rel => exact ⟨j + 1, by (try rw [JW.out]); simp, by have := JL.out; omega, by rw [E1.out]; exact O3.out, RN3.out, RS3.out, G3.out⟩
              case measure => (try rw [JW.out]); exact meas_up JL.out
          · obtain rfl : rn = j := by omega
            have YE : Hid (X ++ (s.rules.take rn).filterMap (rulV ts k n s) = X ++ s.rules.filterMap (rulV ts k n s)) := Lib.hid (by rw [← hrn0.out, List.take_length])
            rw [YE.out] at O1
            have YE2 := congrArg List.length YE.out
            rw [YE2]
            clear YE YE2
            obtain ⟨Y, hY⟩ : ∃ Y, X ++ s.rules.filterMap (rulV ts k n s) = Y := ⟨_, rfl⟩
            have YB : Hid (Y.length ≤ 5100) := Lib.hid (by rw [← hY, List.length_append]; have := LB.out; have := List.length_filterMap_le (rulV ts k n s) s.rules; have := RN16.out; have := hrn0.out; omega)
            rw [hY] at O1 NX2 ⊢
            clear hY
            have x2 := RN1.out.cell 2 (by simp)
            simp only [List.getElem_cons_zero, List.getElem_cons_succ] at x2
            have hx := has_of_cell x2
            obtain ⟨wo2, hwo2⟩ : ∃ wo, wo = wr := ⟨_, rfl⟩
            subst hwo2
            obtain ⟨np, hnp⟩ : ∃ N : Nat, Hid (n.props.length = N) := ⟨_, Lib.hid rfl⟩
            have NP24 : Hid (np ≤ 24) := Lib.hid (by have := NO.out.2.1; have := hnp.out; omega)
            have np24 := NP24.out
            have RN1' := RN1.out
            rw [hnp.out] at x2 RN1' ⊢
            have RN1' := Lib.hid RN1'
            go_wp2_with fail
            clear x2 hx
            go_loopw [5, 78] (fun v i wr => ∃ q : Nat, i = .int .i64 (q : Int) ∧ q ≤ np ∧ VO BB wr v (Y ++ (n.props.take q).filterMap (extV k s)) ∧ Row wr PN 86 [.int .i64 n.parent, .string (bs n.name), .slice pa np pc] ∧ Row wr PS2 48 [.string (bs s.comp), .bool s.closed, .slice ra rn rc] ∧ Gr W wr) (fun _ i _ => np - (intOf i).toNat)
            case atStart => exact ⟨0, rfl, Nat.zero_le _, by rw [List.take_zero, List.filterMap_nil, List.append_nil]; exact O1.out, RN1'.out, RS1.out, HG2.out⟩
            case round =>
              obtain ⟨q, rfl, hq, ho, hrn, hrs3, hg⟩ := hrel
              obtain ⟨vf, vg, rfl⟩ := ho.form
              have HG3 := Lib.hid hg
              have RN4 := Lib.hid hrn
              have RS4 := Lib.hid hrs3
              have O4 := Lib.hid ho
              clear hrn hrs3 hg ho
              by_cases hql : q < np
              · have QL := Lib.hid hql
                have QW := Lib.hid (wrap_up (k := q) (by omega))
                have hqp : q < n.props.length := by rw [hnp.out]; exact hql
                obtain ⟨pb, po, e9, p0, p1, -, -⟩ := prps_at (PS.out.gr RPrp.mono (GW.out.trans HG3.out)) q hqp
                have FT := Lib.hid (fm_take (extV k s) hqp)
                obtain ⟨p, hp⟩ : ∃ p, n.props[q] = p := ⟨_, rfl⟩
                rw [hp] at p0 p1 FT
                have hh := has_of_cell p0
                have qli : (q : Int) < (np : Int) := by omega
                subst e9
                clear hp hqp
                obtain ⟨Z, hZ⟩ : ∃ Z, Y ++ (n.props.take q).filterMap (extV k s) = Z := ⟨_, rfl⟩
                have ZB : Hid (Z.length ≤ 5200) := Lib.hid (by rw [← hZ, List.length_append]; have := YB.out; have := fm_le (extV k s) n.props q; have := NP24.out; have := hnp.out; omega)
                have ZX : Hid (Y ++ (n.props.take (q + 1)).filterMap (extV k s) = Z ++ (extV k s p).toList) := Lib.hid (by rw [FT.out, ← List.append_assoc, hZ])
                rw [hZ] at O4 ⊢
                clear hZ FT
                obtain ⟨nz, hnz⟩ : ∃ N : Nat, Hid (Z.length = N) := ⟨_, Lib.hid rfl⟩
                have NB : Hid (nz ≤ 6000) := Lib.hid (by have := ZB.out; have := hnz.out; omega)
                rw [hnz.out] at ⊢
                go_upto_region 21 with (fail)
                have RP := Lib.hid (Row.new wr #[.string (bs p.name), .string (bs p.val)] 83)
                obtain ⟨W11, hW11⟩ : ∃ W : World, Hid (W = wr.alloc (.cells #[.string (bs p.name), .string (bs p.val)] 83)) := ⟨_, Lib.hid rfl⟩
                have G11 : Hid (Gr wr W11) := Lib.hid (by rw [hW11.out]; exact (Gr.refl _).alloc _)
                rw [← hW11.out] at RP ⊢
                obtain ⟨PP, hPP⟩ : ∃ N : Nat, Hid (wr.heap.size = N) := ⟨_, Lib.hid rfl⟩
                rw [hPP.out] at RP ⊢
                clear hW11 hPP p0 p1 hh qli
                have CR := conR_any s.rules PP p.name ra rc W11 (RUL.out.giU (GW.out.trans (HG3.out.trans G11.out))) (by have := RN16.out; have := hrn0.out; omega) (RP.out.cell 0 (by simp))
                rw [hrn0.out] at CR
                have CR := Lib.hid CR
                have CST := Lib.hid (fun W2 (hg : Gr W W2) => conS_any stdS p.name (some ⟨0, 0, none⟩) 7 W2 ((HV.out.gr (GW.out.trans hg)).sl) (by decide))
                have EB : Hid (extV k s p = if (s.closed && (!(s.rules.any (fun r => r.name == p.name)) && !stdS.any (fun x => p.name == x))) = true then some ⟨6, k, s.comp, p.name⟩ else none) := Lib.hid (by unfold extV extB; rw [List.contains_eq_any_beq])
                obtain ⟨ru, hru⟩ : ∃ ru : Bool, s.rules.any (fun r => r.name == p.name) = ru := ⟨_, rfl⟩
                obtain ⟨sb2, hsb2⟩ : ∃ sb : Bool, stdS.any (fun x => p.name == x) = sb := ⟨_, rfl⟩
                rw [hru] at CR EB
                have CST' : Hid (∀ W2 : World, Gr W W2 → Calls Tryz.prog 85 #[.slice (some ⟨0, 0, none⟩) 7 7, .string (bs p.name)] W2 (Grows W2 (.bool sb2))) := Lib.hid (fun W2 hg => by have := CST.out W2 hg; rw [hsb2] at this; exact this)
                rw [hsb2] at EB
                clear CST hru hsb2
                have RS5 := Lib.hid (RS4.out.gr G11.out)
                have s2 := RS5.out.cell 2 (by simp)
                simp only [List.getElem_cons_zero, List.getElem_cons_succ] at s2
                have hs2 := has_of_cell s2
                go_wp2_with fail
                refine CR.out.mono ?_
                rintro e w12 ⟨rfl, hg12⟩
                clear s2 hs2 RS5 CR
                have G12 := Lib.hid (G11.out.trans hg12)
                have RN5 := Lib.hid (RN4.out.gr G12.out)
                have RS6 := Lib.hid (RS4.out.gr G12.out)
                have RP6 := Lib.hid (RP.out.gr hg12)
                have GA3 := Lib.hid (HG3.out.trans G12.out)
                have O5 := Lib.hid (Gr.owns O4.out G12.out)
                have s1 := RS6.out.cell 1 (by simp)
                have s0 := RS6.out.cell 0 (by simp)
                have q0 := RP6.out.cell 0 (by simp)
                simp only [List.getElem_cons_zero, List.getElem_cons_succ] at s1 s0 q0
                have hs1 := has_of_cell s1
                have hq0 := has_of_cell q0
                have hgl : Has w12 0 := has_of_cell ((HV.out.gr (GW.out.trans GA3.out)) 0 (by omega))
                clear hg12
                obtain ⟨cl, hcl⟩ : ∃ cl : Bool, s.closed = cl := ⟨_, rfl⟩
                rw [hcl] at EB s1
                clear hcl
                cases cl with
                | false =>
                  have E1 : Hid (Y ++ (n.props.take (q + 1)).filterMap (extV k s) = Z) := Lib.hid (by rw [ZX.out, EB.out]; simp)
                  go_wp2_with fail
                  refine wp_region_grows (by kernel_rfl) (by kernel_rfl) ?_
                  repeat (go_big_quiet_step (first | (go_at_call 85; exact calls_grows (CST'.out _ (by first | exact GA3.out | exact GA3.out.drewN _ | exact GA3.out.xt _ _)))))
                  refine wpQuiet_nil ?_
                  rintro _ ⟨⟨O, d9⟩, rfl⟩
                  go_wp2_with fail
                  have O6 : Hid (VO BB (xt w12 O d9) (.slice vf nz vg) Z) := Lib.hid (by have := O5.out; unfold VO; rw [hnz.out]; rw [hnz.out] at this; exact Gr.owns this ((Gr.refl _).xt O d9))
                  go_roundw
                  case rel =>
                    refine ⟨q + 1, ?_, ?_, ?_, RN5.out.xt _ _, RS6.out.xt _ _, GA3.out.xt _ _⟩
                    · (try rw [QW.out]); simp
                    · have := QL.out; omega
                    · rw [E1.out]; exact O6.out
                  case measure => (try rw [QW.out]); exact meas_up QL.out
                | true =>
                  cases ru with
                  | true =>
                    have E1 : Hid (Y ++ (n.props.take (q + 1)).filterMap (extV k s) = Z) := Lib.hid (by rw [ZX.out, EB.out]; simp)
                    go_wp2_with fail
                    refine wp_region_grows (by kernel_rfl) (by kernel_rfl) ?_
                    repeat (go_big_quiet_step (first | (go_at_call 85; exact calls_grows (CST'.out _ (by first | exact GA3.out | exact GA3.out.drewN _ | exact GA3.out.xt _ _)))))
                    refine wpQuiet_nil ?_
                    rintro _ ⟨⟨O, d9⟩, rfl⟩
                    go_wp2_with fail
                    have O6 : Hid (VO BB (xt w12 O d9) (.slice vf nz vg) Z) := Lib.hid (by have := O5.out; unfold VO; rw [hnz.out]; rw [hnz.out] at this; exact Gr.owns this ((Gr.refl _).xt O d9))
                    go_roundw
                    case rel =>
                      refine ⟨q + 1, ?_, ?_, ?_, RN5.out.xt _ _, RS6.out.xt _ _, GA3.out.xt _ _⟩
                      · (try rw [QW.out]); simp
                      · have := QL.out; omega
                      · rw [E1.out]; exact O6.out
                    case measure => (try rw [QW.out]); exact meas_up QL.out
                  | false =>
                    cases sb2 with
                    | true =>
                      have E1 : Hid (Y ++ (n.props.take (q + 1)).filterMap (extV k s) = Z) := Lib.hid (by rw [ZX.out, EB.out]; simp)
                      go_wp2_with fail
                      refine wp_region_grows (by kernel_rfl) (by kernel_rfl) ?_
                      repeat (go_big_quiet_step (first | (go_at_call 85; exact calls_grows (CST'.out _ (by first | exact GA3.out | exact GA3.out.drewN _ | exact GA3.out.xt _ _)))))
                      refine wpQuiet_nil ?_
                      rintro _ ⟨⟨O, d9⟩, rfl⟩
                      go_wp2_with fail
                      have O6 : Hid (VO BB (xt w12 O d9) (.slice vf nz vg) Z) := Lib.hid (by have := O5.out; unfold VO; rw [hnz.out]; rw [hnz.out] at this; exact Gr.owns this ((Gr.refl _).xt O d9))
                      go_roundw
                      case rel =>
                        refine ⟨q + 1, ?_, ?_, ?_, RN5.out.xt _ _, RS6.out.xt _ _, GA3.out.xt _ _⟩
                        · (try rw [QW.out]); simp
                        · have := QL.out; omega
                        · rw [E1.out]; exact O6.out
                      case measure => (try rw [QW.out]); exact meas_up QL.out
                    | false =>
                      have E1 : Hid (Y ++ (n.props.take (q + 1)).filterMap (extV k s) = Z ++ [⟨6, k, s.comp, p.name⟩]) := Lib.hid (by rw [ZX.out, EB.out]; simp)
                      go_wp2_with fail
                      refine wp_region_grows (by kernel_rfl) (by kernel_rfl) ?_
                      repeat (go_big_quiet_step (first | (go_at_call 85; exact calls_grows (CST'.out _ (by first | exact GA3.out | exact GA3.out.drewN _ | exact GA3.out.xt _ _)))))
                      refine wpQuiet_nil ?_
                      rintro _ ⟨⟨O, d9⟩, rfl⟩
                      show Exit.then _ _ _ _ (xt w12 O d9)
                      obtain ⟨W13, hW13⟩ : ∃ W : World, Hid (W = xt w12 O d9) := ⟨_, Lib.hid rfl⟩
                      have G13 : Hid (Gr w12 W13) := Lib.hid (by rw [hW13.out]; exact (Gr.refl _).xt O d9)
                      rw [← hW13.out]
                      have RN2 := Lib.hid (RN5.out.gr G13.out)
                      have RS2 := Lib.hid (RS6.out.gr G13.out)
                      have RP7 := Lib.hid (RP6.out.gr G13.out)
                      have GA4 := Lib.hid (GA3.out.trans G13.out)
                      have OZ : Hid (W13.ownsRow BB 36 4 (.slice vf nz vg) nz (Z.flatMap Vio.enc)) := Lib.hid (by have := O5.out; rw [hnz.out] at this; exact Gr.owns this G13.out)
                      have SZ : Hid (BB ≤ W13.heap.size) := Lib.hid (by have := GA4.out.size; have := hBB.out; omega)
                      clear hW13 s0 s1 q0 hs1 hq0 hgl
                      have s0 := RS2.out.cell 0 (by simp)
                      have q0 := RP7.out.cell 0 (by simp)
                      simp only [List.getElem_cons_zero, List.getElem_cons_succ] at s0 q0
                      have hs0 := has_of_cell s0
                      have hq0 := has_of_cell q0
                      have OA := Lib.hid (Gr.owns OZ.out ((Gr.refl W13).alloc (.cells #[.int .i64 6, .int .i64 (k : Int), .string (bs s.comp), .string (bs p.name)] 36)))
                      have NR := Lib.hid (row_cells (Row.new W13 #[.int .i64 6, .int .i64 (k : Int), .string (bs s.comp), .string (bs p.name)] 36))
                      go_wp2_with (at_builtin; refine wpList_append_own _ rfl _ _ 31 rfl BB 36 i0 (.agg #[.int .i64 0, .int .i64 0, .string (bs []), .string (bs [])]) 4 48 Tryz.underlying31 hi hz0 hz1 hz2 rfl (by decide) _ nz ((Z).flatMap Vio.enc) rfl OA.out ⟨(W13).heap.size, 0, none⟩ 1 1 (Vio.enc ⟨6, k, s.comp, p.name⟩) rfl rfl NR.out (Vio.enc_one _) (by unfold maxLen; have := NB.out; omega) (by have := NB.out; omega) (by have := SZ.out; simp; omega) ?_; intro v' wz hown' hgrow hnil; have HOz := Lib.hid hown'; have HGz := Lib.hid hgrow; clear hown' hgrow hnil)
                      have O6 := Lib.hid (VO.push (y := ⟨6, k, s.comp, p.name⟩) HOz.out hnz.out)
                      have G6 := Lib.hid ((GA4.out.alloc (.cells #[.int .i64 6, .int .i64 (k : Int), .string (bs s.comp), .string (bs p.name)] 36)).grown HGz.out (fun j e => by have := (owns_block OA.out j e).1; have := hBB.out; omega))
                      have RN7 := Lib.hid ((RN2.out.alloc (.cells #[.int .i64 6, .int .i64 (k : Int), .string (bs s.comp), .string (bs p.name)] 36)).kept HGz.out ((RN2.out.alloc (.cells #[.int .i64 6, .int .i64 (k : Int), .string (bs s.comp), .string (bs p.name)] 36)).ty.ne OA.out (by decide)))
                      have RS7 := Lib.hid ((RS2.out.alloc (.cells #[.int .i64 6, .int .i64 (k : Int), .string (bs s.comp), .string (bs p.name)] 36)).kept HGz.out ((RS2.out.alloc (.cells #[.int .i64 6, .int .i64 (k : Int), .string (bs s.comp), .string (bs p.name)] 36)).ty.ne OA.out (by decide)))
                      clear OA NR HOz HGz s0 q0 hs0 hq0
                      go_roundw
                      case rel =>
                        refine ⟨q + 1, ?_, ?_, ?_, RN7.out, RS7.out, G6.out⟩
                        · (try rw [QW.out]); simp
                        · have := QL.out; omega
                        · rw [E1.out]; exact O6.out
                      case measure => (try rw [QW.out]); exact meas_up QL.out
              · obtain rfl : np = q := by omega
                have YE : Hid (Y ++ (n.props.take np).filterMap (extV k s) = vioF ts l (k + 1)) := Lib.hid (by rw [← hnp.out, List.take_length, NX2.out])
                rw [YE.out] at O4
                have YE2 := congrArg List.length YE.out
                rw [YE2]
                clear YE2
                go_wp2_with fail
                go_roundw
                case rel => exact ⟨k + 1, by (try rw [KW.out]); simp, by have := HLT.out; omega, O4.out, HG3.out⟩
                case measure => (try rw [KW.out]); exact meas_up HLT.out
    · obtain rfl : k = m := by omega
      go_wp2_with fail
      rw [HP0.out]
      have e : vioT ts l = vioF ts l k := by unfold vioT; rw [hm.out]
      rw [e]
      exact ⟨_, rfl, owns_low OX.out (by have := GW.out.size; have := hBB.out; omega), GW.out.trans HG.out⟩
end Go.Proofs.YtbpkndiecomggaaGreatDoor

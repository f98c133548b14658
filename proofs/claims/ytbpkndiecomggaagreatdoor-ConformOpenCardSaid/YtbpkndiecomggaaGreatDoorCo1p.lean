/- Lemmas and contracts for the proof of ConformOpen (several texts in one, printed by wip/tools/pack.py): WcC WcD WcE. -/
import Derived.Test.YtbpkndiecomggaaGreatDoorCo1o
set_option maxRecDepth 100000
set_option maxHeartbeats 16000000
set_option linter.unusedVariables false
set_option linter.unusedSimpArgs false
namespace Go.Proofs.YtbpkndiecomggaaGreatDoor
open Go.RowKit
open Classical
theorem idxS_any (ys : List St) (s : St) (a : Option Addr) (cap : Nat) (w : World) (h : SlOf 1 RS w a ys) (hf : ys.length ≤ 1000000) :
    Calls Tryz.prog 110 #[.slice a ys.length cap, .string (bs s)] w fun e w' => ∃ i : Int, e = .returned (.int .i64 i) ∧ (decide (0 ≤ i) = ys.any (fun x => s == x)) ∧ Gr w w' := by
  have H := Lib.hid h
  clear h
  go_enter Tryz.func110, Tryz.ntmps110
  go_wp2_with fail
  go_loopw [8] (fun i wr => ∃ k : Nat, k ≤ ys.length ∧ i = .int .i64 k ∧ (∀ j (hj : j < k) (hjl : j < ys.length), (s == ys[j]) = false) ∧ Gr w wr) (fun i _ => ys.length - (intOf i).toNat)
  case atStart => exact ⟨0, Nat.zero_le _, rfl, fun j h => absurd h (by omega), Gr.refl _⟩
  case round =>
    obtain ⟨k, hk, rfl, hall, hg⟩ := hrel
    have HA := Lib.hid hall
    have HG := Lib.hid hg
    clear hall hg
    by_cases hlt : k < ys.length
    · obtain ⟨b, o, rfl, c0, _⟩ := (H.out.giS HG.out).one k hlt
      obtain ⟨y, hyk⟩ : ∃ y, ys[k] = y := ⟨_, rfl⟩
      have HYK := Lib.hid hyk
      rw [hyk] at c0
      have hh := has_of_cell c0
      clear hyk
      by_cases hv : (s == y) = true
      · have V := Lib.hid hv
        go_wp2_with fail
        go_ret
        refine ⟨_, rfl, ?_, HG.out⟩
        rw [show decide (0 ≤ (k : Int)) = true by simp, eq_comm, List.any_eq_true]
        exact ⟨_, List.getElem_mem hlt, by rw [HYK.out]; exact V.out⟩
      · rw [Bool.not_eq_true] at hv
        have V := Lib.hid hv
        go_wp2_with fail
        go_roundw
        case rel =>
          refine ⟨k + 1, by omega, by go_num, fun j hj hjl => ?_, HG.out⟩
          by_cases e : j = k
          · subst e; rw [HYK.out]; exact V.out
          · exact HA.out j (by omega) hjl
        case measure => simp [intOf]; omega
    · go_wp2_with fail
      go_ret
      refine ⟨_, rfl, ?_, HG.out⟩
      rw [eq_comm, show decide ((0:Int) ≤ -1) = false by simp, List.any_eq_false]
      intro x hx
      obtain ⟨j, hj, rfl⟩ := List.getElem_of_mem hx
      rw [HA.out j (by omega) hj]; simp
theorem conS_any (ys : List St) (s : St) (a : Option Addr) (cap : Nat) (w : World) (h : SlOf 1 RS w a ys) (hf : ys.length ≤ 1000000) :
    Calls Tryz.prog 85 #[.slice a ys.length cap, .string (bs s)] w (Grows w (.bool (ys.any (fun x => s == x)))) := by
  have HI := Lib.hid (idxS_any ys s a cap w h hf)
  clear h
  go_enter Tryz.func85, Tryz.ntmps85
  go_wp2_with fail
  refine HI.out.mono ?_
  rintro e w' ⟨x, rfl, hx, O, d, rfl⟩
  have X := Lib.hid hx
  clear hx
  go_wp2_with fail
  go_ret
  exact ⟨ret_bool X.out, (Gr.refl _).xt _ _⟩
theorem cel1_any (x : Int) (PB : Nat) (lo hi : Int) (w : World) (h3 : w.cell? ⟨PB, 3, none⟩ = some (.int .i64 lo)) (h4 : w.cell? ⟨PB, 4, none⟩ = some (.int .i64 hi)) :
    Calls Tryz.prog 131 #[.int .i64 x, .pointer (some ⟨PB, 0, none⟩)] w fun e w' => e = .returned (.bool (decide (x < lo) || decide (hi < x))) ∧ w = w' := by
  have hh := has_of_cell h3
  by_cases h : x < lo
  · have hd : decide (x < lo) = true := decide_eq_true h
    go_enter Tryz.func131, Tryz.ntmps131
    go_wp2_with fail
    go_ret
    exact ⟨ret_bool (by rw [hd]; rfl), rfl⟩
  · have hd : decide (x < lo) = false := decide_eq_false h
    go_enter Tryz.func131, Tryz.ntmps131
    go_wp2_with fail
    go_ret
    exact ⟨ret_bool (by first | (rw [hd]; simp; done) | (simp [h]; done) | exact decide_eq_decide.2 Iff.rfl), rfl⟩
theorem idxI_any (ys : List Int) (PB : Nat) (lo hi : Int) (a : Option Addr) (cap : Nat) (w : World) (h : SlOf 1 RI w a ys) (hf : ys.length ≤ 1000000) (hq : w.cell? ⟨PB, 3, none⟩ = some (.int .i64 lo) ∧ w.cell? ⟨PB, 4, none⟩ = some (.int .i64 hi)) :
    Calls Tryz.prog 145 #[.slice a ys.length cap, .func (.func 131) #[] #[.pointer (some ⟨PB, 0, none⟩)]] w fun e w' => ∃ i : Int, e = .returned (.int .i64 i) ∧ (decide (0 ≤ i) = ys.any (fun x => decide (x < lo) || decide (hi < x))) ∧ Gr w w' := by
  have H := Lib.hid h
  clear h
  have HQ := Lib.hid hq
  clear hq
  go_enter Tryz.func145, Tryz.ntmps145
  go_wp2_with fail
  go_loopw [8] (fun i wr => ∃ k : Nat, k ≤ ys.length ∧ i = .int .i64 k ∧ (∀ j (hj : j < k) (hjl : j < ys.length), (decide (ys[j] < lo) || decide (hi < ys[j])) = false) ∧ Gr w wr) (fun i _ => ys.length - (intOf i).toNat)
  case atStart => exact ⟨0, Nat.zero_le _, rfl, fun j h => absurd h (by omega), Gr.refl _⟩
  case round =>
    obtain ⟨k, hk, rfl, hall, hg⟩ := hrel
    have HA := Lib.hid hall
    have HG := Lib.hid hg
    clear hall hg
    by_cases hlt : k < ys.length
    · obtain ⟨b, o, rfl, c0, _⟩ := (H.out.gr RI.mono HG.out).one k hlt
      obtain ⟨y, hyk⟩ : ∃ y, ys[k] = y := ⟨_, rfl⟩
      have HYK := Lib.hid hyk
      rw [hyk] at c0
      have hh := has_of_cell c0
      have HC := Lib.hid (cel1_any y PB lo hi wr (cell_gr HG.out HQ.out.1) (cell_gr HG.out HQ.out.2))
      clear hyk
      by_cases hv : (decide (y < lo) || decide (hi < y)) = true
      · have V := Lib.hid hv
        rw [hv] at HC
        clear hv
        go_wp2_with (go_at_call 131; refine HC.out.mono ?_; rintro e w' ⟨rfl, rfl⟩)
        go_ret
        refine ⟨_, rfl, ?_, HG.out⟩
        rw [show decide (0 ≤ (k : Int)) = true by simp, eq_comm, List.any_eq_true]
        exact ⟨_, List.getElem_mem hlt, by rw [HYK.out]; exact V.out⟩
      · rw [Bool.not_eq_true] at hv
        have V := Lib.hid hv
        rw [hv] at HC
        clear hv
        go_wp2_with (go_at_call 131; refine HC.out.mono ?_; rintro e w' ⟨rfl, rfl⟩)
        go_roundw
        case rel =>
          refine ⟨k + 1, by omega, by go_num, fun j hj hjl => ?_, HG.out⟩
          by_cases e : j = k
          · subst e; rw [HYK.out]; exact V.out
          · exact HA.out j (by omega) hjl
        case measure => simp [intOf]; omega
    · go_wp2_with fail
      go_ret
      refine ⟨_, rfl, ?_, HG.out⟩
      rw [eq_comm, show decide ((0:Int) ≤ -1) = false by simp, List.any_eq_false]
      intro x hx
      obtain ⟨j, hj, rfl⟩ := List.getElem_of_mem hx
      rw [HA.out j (by omega) hj]; simp
theorem conI_any (ys : List Int) (PB : Nat) (lo hi : Int) (a : Option Addr) (cap : Nat) (w : World) (h : SlOf 1 RI w a ys) (hf : ys.length ≤ 1000000) (hq : w.cell? ⟨PB, 3, none⟩ = some (.int .i64 lo) ∧ w.cell? ⟨PB, 4, none⟩ = some (.int .i64 hi)) :
    Calls Tryz.prog 130 #[.slice a ys.length cap, .func (.func 131) #[] #[.pointer (some ⟨PB, 0, none⟩)]] w (Grows w (.bool (ys.any (fun x => decide (x < lo) || decide (hi < x))))) := by
  have HI := Lib.hid (idxI_any ys PB lo hi a cap w h hf hq)
  clear h
  go_enter Tryz.func130, Tryz.ntmps130
  go_wp2_with fail
  refine HI.out.mono ?_
  rintro e w' ⟨x, rfl, hx, O, d, rfl⟩
  have X := Lib.hid hx
  clear hx
  go_wp2_with fail
  go_ret
  exact ⟨ret_bool X.out, (Gr.refl _).xt _ _⟩
theorem vio1_any (r : Rul) (a : Option Addr) (n cap PB : Nat) (s : St) (w : World) (h : w.cell? ⟨PB, 0, none⟩ = some (.string (bs s))) :
    Calls Tryz.prog 84 #[.agg #[.string (bs r.name), .bool r.req, .int .i64 r.kind, .int .i64 r.low, .int .i64 r.high, .int .i64 r.count, .slice a n cap], .pointer (some ⟨PB, 0, none⟩)] w (Grows w (.bool (r.name == s))) := by
  have hh := has_of_cell h
  go_enter Tryz.func84, Tryz.ntmps84
  go_wp2_with fail
  go_ret
  exact ⟨rfl, (Gr.refl _).alloc _⟩
theorem idxR_any (ys : List Rul) (PB : Nat) (s : St) (a : Option Addr) (cap : Nat) (w : World) (h : SlOf 7 RRul w a ys) (hf : ys.length ≤ 1000000) (hq : w.cell? ⟨PB, 0, none⟩ = some (.string (bs s))) :
    Calls Tryz.prog 105 #[.slice a ys.length cap, .func (.func 84) #[] #[.pointer (some ⟨PB, 0, none⟩)]] w fun e w' => ∃ i : Int, e = .returned (.int .i64 i) ∧ (decide (0 ≤ i) = ys.any (fun x => x.name == s)) ∧ Gr w w' := by
  have H := Lib.hid h
  clear h
  have HQ := Lib.hid hq
  clear hq
  go_enter Tryz.func105, Tryz.ntmps105
  go_wp2_with fail
  go_loopw [8] (fun i wr => ∃ k : Nat, k ≤ ys.length ∧ i = .int .i64 k ∧ (∀ j (hj : j < k) (hjl : j < ys.length), (ys[j].name == s) = false) ∧ Gr w wr) (fun i _ => ys.length - (intOf i).toNat)
  case atStart => exact ⟨0, Nat.zero_le _, rfl, fun j h => absurd h (by omega), Gr.refl _⟩
  case round =>
    obtain ⟨k, hk, rfl, hall, hg⟩ := hrel
    have HA := Lib.hid hall
    have HG := Lib.hid hg
    clear hall hg
    by_cases hlt : k < ys.length
    · obtain ⟨b, o, pa, pc, rfl, c0, c1, c2, c3, c4, c5, c6, _⟩ := ruls_at (H.out.giU HG.out) k hlt
      obtain ⟨y, hyk⟩ : ∃ y, ys[k] = y := ⟨_, rfl⟩
      have HYK := Lib.hid hyk
      rw [hyk] at c0 c1 c2 c3 c4 c5 c6
      have hh := has_of_cell c0
      have HC := Lib.hid (vio1_any y pa y.words.length pc PB s wr (cell_gr HG.out HQ.out))
      clear hyk
      by_cases hv : (y.name == s) = true
      · have V := Lib.hid hv
        rw [hv] at HC
        clear hv
        go_wp2_with (go_at_call 84; refine HC.out.mono ?_; rintro e w' ⟨rfl, O, d, rfl⟩)
        go_ret
        refine ⟨_, rfl, ?_, HG.out.xt _ _⟩
        rw [show decide (0 ≤ (k : Int)) = true by simp, eq_comm, List.any_eq_true]
        exact ⟨_, List.getElem_mem hlt, by rw [HYK.out]; exact V.out⟩
      · rw [Bool.not_eq_true] at hv
        have V := Lib.hid hv
        rw [hv] at HC
        clear hv
        go_wp2_with (go_at_call 84; refine HC.out.mono ?_; rintro e w' ⟨rfl, O, d, rfl⟩)
        go_roundw
        case rel =>
          refine ⟨k + 1, by omega, by go_num, fun j hj hjl => ?_, HG.out.xt _ _⟩
          by_cases e : j = k
          · subst e; rw [HYK.out]; exact V.out
          · exact HA.out j (by omega) hjl
        case measure => simp [intOf]; omega
    · go_wp2_with fail
      go_ret
      refine ⟨_, rfl, ?_, HG.out⟩
      rw [eq_comm, show decide ((0:Int) ≤ -1) = false by simp, List.any_eq_false]
      intro x hx
      obtain ⟨j, hj, rfl⟩ := List.getElem_of_mem hx
      rw [HA.out j (by omega) hj]; simp
theorem conR_any (ys : List Rul) (PB : Nat) (s : St) (a : Option Addr) (cap : Nat) (w : World) (h : SlOf 7 RRul w a ys) (hf : ys.length ≤ 1000000) (hq : w.cell? ⟨PB, 0, none⟩ = some (.string (bs s))) :
    Calls Tryz.prog 76 #[.slice a ys.length cap, .func (.func 84) #[] #[.pointer (some ⟨PB, 0, none⟩)]] w (Grows w (.bool (ys.any (fun x => x.name == s)))) := by
  have HI := Lib.hid (idxR_any ys PB s a cap w h hf hq)
  clear h
  go_enter Tryz.func76, Tryz.ntmps76
  go_wp2_with fail
  refine HI.out.mono ?_
  rintro e w' ⟨x, rfl, hx, O, d, rfl⟩
  have X := Lib.hid hx
  clear hx
  go_wp2_with fail
  go_ret
  exact ⟨ret_bool X.out, (Gr.refl _).xt _ _⟩
theorem beq_t {a b : Int} (h : a = b) : (a == b) = true := by rw [beq_iff_eq]; exact h
theorem beq_f {a b : Int} (h : a ≠ b) : (a == b) = false := by rw [beq_eq_false_iff_ne]; exact h
theorem bne_f {a b : Int} (h : a = b) : (a != b) = false := by rw [bne, beq_t h]; rfl
theorem bne_t {a b : Int} (h : a ≠ b) : (a != b) = true := by rw [bne, beq_f h]; rfl
theorem celT {ts : Tr} {ta : Option Addr} {tc PT PB : Nat} {nm : St} {rq : Bool} {kd lo hi ct : Int} {ws : List St} {ra a : Option Addr} {rc n c : Nat} {L : List Int} {w W : World} {s0 s1 s2 s5 s6 s8 s9 s10 s11 s12 s13 s14 s15 s16 s17 s18 s19 s20 s21 s22 s23 s24 s25 s26 s27 s28 s29 s30 s31 s32 s33 s34 s35 s36 s37 s38 s39 s40 s41 s42 s43 s44 s45 s46 s47 s48 s49 s50 s51 s52 s53 : Value}
    (HT : Hid (SlOf 3 RNod W ta ts)) (HC : Hid (chkT ts = 0)) (G : Hid (Gr w W)) (RT : Hid (Row W PT 29 [.slice ta ts.length tc])) (RB : Hid (Row W PB 51 [.string (bs nm), .bool rq, .int .i64 kd, .int .i64 lo, .int .i64 hi, .int .i64 ct, .slice ra ws.length rc])) (HL : Hid (SlOf 1 RI W a L)) (HN : Hid (L.length = n ∧ 1 ≤ n ∧ n ≤ 1000)) :
    (tl 3 Tryz.f108).wp Tryz.prog (bodyPost Tryz.prog Tryz.f108 (Grows w (.int .i64 (if kd = 6 ∧ (phan ts (L.getD 0 0)).isNone = true then 5 else 0)))) { tmps := #[s0, s1, s2, .pointer (some ⟨PT, 0, none⟩), .pointer (some ⟨PB, 0, none⟩), s5, s6, .slice a n c, s8, s9, s10, s11, s12, s13, s14, s15, s16, s17, s18, s19, s20, s21, s22, s23, s24, s25, s26, s27, s28, s29, s30, s31, s32, s33, s34, s35, s36, s37, s38, s39, s40, s41, s42, s43, s44, s45, s46, s47, s48, s49, s50, s51, s52, s53], defers := [] } W := by
  obtain ⟨P0, hP0⟩ : ∃ P : Ending → World → Prop, P = Grows w (.int .i64 (if kd = 6 ∧ (phan ts (L.getD 0 0)).isNone = true then 5 else 0)) := ⟨_, rfl⟩
  rw [← hP0]
  have HP0 := Lib.hid hP0
  clear hP0
  obtain ⟨b, o, rfl, c0, _⟩ := HL.out.one 0 (by have := HN.out; omega)
  have L0 : L.getD 0 0 = L[0]'(by have := HN.out; omega) := by rw [List.getD_eq_getElem?_getD, List.getElem?_eq_getElem (by have := HN.out; omega)]; rfl
  rw [← L0] at c0
  have PC := Lib.hid (fun W2 (hg : Gr W W2) => phandle_any ts ta tc (L.getD 0 0) W2 (HT.out.gr RNod.mono hg) HC.out)
  obtain ⟨p, hp⟩ : ∃ p, L.getD 0 0 = p := ⟨_, rfl⟩
  rw [hp] at c0 PC HP0
  have hh := has_of_cell c0
  have n0 : (0 : Int) < (n : Int) := by have := HN.out; omega
  have x0 : W.cell? ⟨PT, 0, none⟩ = some (.slice ta ts.length tc) := RT.out.cell 0 (by simp)
  have hx := has_of_cell x0
  have b2 : W.cell? ⟨PB, 2, none⟩ = some (.int .i64 kd) := RB.out.cell 2 (by simp)
  have hb := has_of_cell b2
  clear hp L0
  simp only [Nat.zero_mul, Nat.add_zero] at c0
  obtain ⟨pk, hpk⟩ : ∃ pk, phan ts p = pk := ⟨_, rfl⟩
  rw [hpk] at PC HP0
  clear hpk
  simp only [tl, Tryz.f108, Option.map_some, Option.getD_some, sndN]
  by_cases h6 : kd = 6
  · have e6 := beq_t h6
    have H6 := Lib.hid h6
    clear h6
    cases pk with
    | none =>
      simp only [Option.getD_none, Option.isSome_none] at PC
      go_wp2_with fail
      refine wp_region_grows (by kernel_rfl) (by kernel_rfl) ?_
      repeat (go_big_quiet_step (first | (go_at_call 132; exact calls_grows (PC.out _ (by first | exact Gr.refl _ | exact (Gr.refl _).drewN _ | exact (Gr.refl _).xt _ _)))))
      refine wpQuiet_nil ?_
      rintro _ ⟨⟨O, d9⟩, rfl⟩
      go_wp2_with fail
      rw [HP0.out, if_pos ⟨H6.out, rfl⟩]
      exact ⟨rfl, G.out.xt _ _⟩
    | some j =>
      simp only [Option.getD_some, Option.isSome_some] at PC
      go_wp2_with fail
      refine wp_region_grows (by kernel_rfl) (by kernel_rfl) ?_
      repeat (go_big_quiet_step (first | (go_at_call 132; exact calls_grows (PC.out _ (by first | exact Gr.refl _ | exact (Gr.refl _).drewN _ | exact (Gr.refl _).xt _ _)))))
      refine wpQuiet_nil ?_
      rintro _ ⟨⟨O, d9⟩, rfl⟩
      go_wp2_with fail
      rw [HP0.out, if_neg (fun q => by cases q.2)]
      exact ⟨rfl, G.out.xt _ _⟩
  · have e6 := beq_f h6
    have H6 := Lib.hid h6
    clear h6
    go_wp2_with fail
    refine wp_region_grows (by kernel_rfl) (by kernel_rfl) ?_
    repeat (go_big_quiet_step (first | (go_at_call 132; exact calls_grows (PC.out _ (by first | exact Gr.refl _ | exact (Gr.refl _).drewN _ | exact (Gr.refl _).xt _ _)))))
    refine wpQuiet_nil ?_
    rintro _ ⟨⟨O, d9⟩, rfl⟩
    go_wp2_with fail
    rw [HP0.out, if_neg (fun q => H6.out q.1)]
    exact ⟨rfl, G.out.xt _ _⟩
theorem cCells_any (ts : Tr) (ta : Option Addr) (tc : Nat) (r : Rul) (ra : Option Addr) (rc : Nat) (v : St) (w : World) (h : SlOf 3 RNod w ta ts) (hc : chkT ts = 0) (hv : v.length ≤ 1000) :
    Calls Tryz.prog 108 #[.agg #[.slice ta ts.length tc], .agg #[.string (bs r.name), .bool r.req, .int .i64 r.kind, .int .i64 r.low, .int .i64 r.high, .int .i64 r.count, .slice ra r.words.length rc], .string (bs v)] w (Grows w (.int .i64 (celBad ts r v))) := by
  have H := Lib.hid h
  have HC := Lib.hid hc
  have HV := Lib.hid hv
  clear h hc hv
  obtain ⟨nm, rq, kd, lo, hi, ct, ws⟩ := r
  dsimp only
  obtain ⟨bad, hbad⟩ : ∃ bad, celBad ts ⟨nm, rq, kd, lo, hi, ct, ws⟩ v = bad := ⟨_, rfl⟩
  have BD : Hid (bad = if cellsOk v = false then 2 else if ct ≠ 0 ∧ ((cellsL v).length : Int) ≠ ct then 3 else if kd = 3 ∧ (cellsL v).any (fun n => decide (n < lo) || decide (hi < n)) = true then 4 else if kd = 6 ∧ (phan ts ((cellsL v).getD 0 0)).isNone = true then 5 else 0) := Lib.hid (by rw [← hbad]; rfl)
  rw [hbad]
  clear hbad
  obtain ⟨P0, hP0⟩ : ∃ P : Ending → World → Prop, P = Grows w (.int .i64 bad) := ⟨_, rfl⟩
  rw [← hP0]
  have HP0 := Lib.hid hP0
  clear hP0
  go_enter Tryz.func108, Tryz.ntmps108
  refine wp_cut 3 fun TT hT => ?_
  simp only [cutAt]
  go_upto_region 1 with (fail)
  have RT := Lib.hid ((Row.new w #[.slice ta ts.length tc] 29).alloc (.cells #[.string (bs nm), .bool rq, .int .i64 kd, .int .i64 lo, .int .i64 hi, .int .i64 ct, .slice ra ws.length rc] 51))
  have RB : Hid (Row ((w.alloc (.cells #[.slice ta ts.length tc] 29)).alloc (.cells #[.string (bs nm), .bool rq, .int .i64 kd, .int .i64 lo, .int .i64 hi, .int .i64 ct, .slice ra ws.length rc] 51)) (w.heap.size + 1) 51 [.string (bs nm), .bool rq, .int .i64 kd, .int .i64 lo, .int .i64 hi, .int .i64 ct, .slice ra ws.length rc]) := Lib.hid (by
    have q := Row.new (w.alloc (.cells #[.slice ta ts.length tc] 29)) #[.string (bs nm), .bool rq, .int .i64 kd, .int .i64 lo, .int .i64 hi, .int .i64 ct, .slice ra ws.length rc] 51
    have e : (w.alloc (.cells #[.slice ta ts.length tc] 29)).heap.size = w.heap.size + 1 := by simp
    rw [e] at q; exact q)
  obtain ⟨W, hW⟩ : ∃ W : World, Hid (W = (w.alloc (.cells #[.slice ta ts.length tc] 29)).alloc (.cells #[.string (bs nm), .bool rq, .int .i64 kd, .int .i64 lo, .int .i64 hi, .int .i64 ct, .slice ra ws.length rc] 51)) := ⟨_, Lib.hid rfl⟩
  have GW : Hid (Gr w W) := Lib.hid (by rw [hW.out]; exact ((Gr.refl _).alloc _).alloc _)
  rw [← hW.out] at RT RB ⊢
  obtain ⟨PT, hPT⟩ : ∃ N : Nat, Hid (w.heap.size = N) := ⟨_, Lib.hid rfl⟩
  rw [hPT.out] at RT RB ⊢
  clear hW hPT
  obtain ⟨PB, hPB⟩ : ∃ N : Nat, Hid (PT + 1 = N) := ⟨_, Lib.hid rfl⟩
  rw [hPB.out] at RB ⊢
  clear hPB
  go_wp2_with fail
  refine (cells_any v W (by have := HV.out; omega)).mono ?_
  intro e w1 hg
  by_cases hok : cellsOk v = true
  · unfold GivesCells at hg
    rw [if_pos hok] at hg
    obtain ⟨x, rfl, hx, hg1⟩ := hg
    obtain ⟨a, c, rfl, hcap, hsl⟩ := ints_at hx (cells_wide v)
    have SL := Lib.hid hsl
    have G1 := Lib.hid (GW.out.trans hg1)
    have RT1 := Lib.hid (RT.out.gr hg1)
    have RB1 := Lib.hid (RB.out.gr hg1)
    have LN : Hid (1 ≤ (cellsL v).length ∧ (cellsL v).length ≤ 1000) := Lib.hid (by
      have q := cellsL_length v
      unfold cellsOk at hok
      simp at hok
      have q2 : v.length ≠ 0 := by intro e; exact hok.1 (List.eq_nil_of_length_eq_zero e)
      have := HV.out
      omega)
    have BD2 : Hid (bad = if ct ≠ 0 ∧ ((cellsL v).length : Int) ≠ ct then 3 else if kd = 3 ∧ (cellsL v).any (fun n => decide (n < lo) || decide (hi < n)) = true then 4 else if kd = 6 ∧ (phan ts ((cellsL v).getD 0 0)).isNone = true then 5 else 0) := Lib.hid (by rw [BD.out, if_neg (by rw [hok]; simp)])
    obtain ⟨L, hL⟩ : ∃ L, cellsL v = L := ⟨_, rfl⟩
    rw [hL] at SL LN BD2 ⊢
    clear hx hsl hg1 hok hL BD hcap
    obtain ⟨n, hn⟩ : ∃ n : Nat, Hid (L.length = n) := ⟨_, Lib.hid rfl⟩
    have HNN : Hid (L.length = n ∧ 1 ≤ n ∧ n ≤ 1000) := Lib.hid ⟨hn.out, by have := LN.out; have := hn.out; omega, by have := LN.out; have := hn.out; omega⟩
    rw [hn.out] at BD2 ⊢
    have b2 : w1.cell? ⟨PB, 2, none⟩ = some (.int .i64 kd) := RB1.out.cell 2 (by simp)
    have b3 : w1.cell? ⟨PB, 3, none⟩ = some (.int .i64 lo) := RB1.out.cell 3 (by simp)
    have b4 : w1.cell? ⟨PB, 4, none⟩ = some (.int .i64 hi) := RB1.out.cell 4 (by simp)
    have b5 : w1.cell? ⟨PB, 5, none⟩ = some (.int .i64 ct) := RB1.out.cell 5 (by simp)
    have hb := has_of_cell b2
    have CI := Lib.hid (conI_any L PB lo hi a c w1 SL.out (by have := LN.out; omega) ⟨b3, b4⟩)
    rw [hn.out] at CI
    obtain ⟨q, hq⟩ : ∃ q : Bool, L.any (fun x => decide (x < lo) || decide (hi < x)) = q := ⟨_, rfl⟩
    rw [hq] at CI BD2
    clear hq
    have FIN : Hid (∀ W2 (e : Int), Gr w1 W2 → bad = (if kd = 6 ∧ (phan ts (L.getD 0 0)).isNone = true then 5 else 0) → True) := Lib.hid fun _ _ _ _ => trivial
    by_cases h0 : ct = 0
    · have z1 := bne_f h0
      have BD3 : Hid (bad = if kd = 3 ∧ q = true then 4 else if kd = 6 ∧ (phan ts (L.getD 0 0)).isNone = true then 5 else 0) := Lib.hid (by rw [BD2.out, if_neg (fun k => k.1 h0)])
      clear h0 BD2
      by_cases h3 : kd = 3
      · have z3 := beq_t h3
        cases q with
        | true =>
          have BD4 : Hid (bad = 4) := Lib.hid (by rw [BD3.out, if_pos ⟨h3, rfl⟩])
          clear h3
          go_wp2_with (go_at_call 130; refine CI.out.mono ?_; rintro e w' ⟨rfl, O, d, rfl⟩)
          rw [HP0.out, BD4.out]
          exact ⟨rfl, G1.out.xt _ _⟩
        | false =>
          have BD4 : Hid (bad = if kd = 6 ∧ (phan ts (L.getD 0 0)).isNone = true then 5 else 0) := Lib.hid (by rw [BD3.out, if_neg (fun k => by cases k.2)])
          clear h3
          go_wp2_with (go_at_call 130; refine CI.out.mono ?_; rintro e w' ⟨rfl, O, d, rfl⟩)
          rw [HP0.out, BD4.out]
          exact wp_at hT (by kernel_rfl) (celT (Lib.hid ((H.out.gr RNod.mono G1.out).gr RNod.mono ((Gr.refl _).xt O d))) HC (Lib.hid (G1.out.xt _ _)) (Lib.hid (RT1.out.xt _ _)) (Lib.hid (RB1.out.xt _ _)) (Lib.hid (SL.out.gr RI.mono ((Gr.refl _).xt O d))) HNN)
      · have z3 := beq_f h3
        have BD4 : Hid (bad = if kd = 6 ∧ (phan ts (L.getD 0 0)).isNone = true then 5 else 0) := Lib.hid (by rw [BD3.out, if_neg (fun k => h3 k.1)])
        clear h3
        go_wp2_with fail
        rw [HP0.out, BD4.out]
        exact wp_at hT (by kernel_rfl) (celT (Lib.hid (H.out.gr RNod.mono G1.out)) HC G1 RT1 RB1 SL HNN)
    · have z1 := bne_t h0
      by_cases hl : (n : Int) = ct
      · have z2 := bne_f hl
        have BD3 : Hid (bad = if kd = 3 ∧ q = true then 4 else if kd = 6 ∧ (phan ts (L.getD 0 0)).isNone = true then 5 else 0) := Lib.hid (by rw [BD2.out, if_neg (fun k => k.2 hl)])
        clear h0 BD2 hl
        by_cases h3 : kd = 3
        · have z3 := beq_t h3
          cases q with
          | true =>
            have BD4 : Hid (bad = 4) := Lib.hid (by rw [BD3.out, if_pos ⟨h3, rfl⟩])
            clear h3
            go_wp2_with (go_at_call 130; refine CI.out.mono ?_; rintro e w' ⟨rfl, O, d, rfl⟩)
            rw [HP0.out, BD4.out]
            exact ⟨rfl, G1.out.xt _ _⟩
          | false =>
            have BD4 : Hid (bad = if kd = 6 ∧ (phan ts (L.getD 0 0)).isNone = true then 5 else 0) := Lib.hid (by rw [BD3.out, if_neg (fun k => by cases k.2)])
            clear h3
            go_wp2_with (go_at_call 130; refine CI.out.mono ?_; rintro e w' ⟨rfl, O, d, rfl⟩)
            rw [HP0.out, BD4.out]
            exact wp_at hT (by kernel_rfl) (celT (Lib.hid ((H.out.gr RNod.mono G1.out).gr RNod.mono ((Gr.refl _).xt O d))) HC (Lib.hid (G1.out.xt _ _)) (Lib.hid (RT1.out.xt _ _)) (Lib.hid (RB1.out.xt _ _)) (Lib.hid (SL.out.gr RI.mono ((Gr.refl _).xt O d))) HNN)
        · have z3 := beq_f h3
          have BD4 : Hid (bad = if kd = 6 ∧ (phan ts (L.getD 0 0)).isNone = true then 5 else 0) := Lib.hid (by rw [BD3.out, if_neg (fun k => h3 k.1)])
          clear h3
          go_wp2_with fail
          rw [HP0.out, BD4.out]
          exact wp_at hT (by kernel_rfl) (celT (Lib.hid (H.out.gr RNod.mono G1.out)) HC G1 RT1 RB1 SL HNN)
      · have z2 := bne_t hl
        have BD3 : Hid (bad = 3) := Lib.hid (by rw [BD2.out, if_pos ⟨h0, hl⟩])
        clear h0 hl
        go_wp2_with fail
        rw [HP0.out, BD3.out]
        exact ⟨rfl, G1.out⟩
  · unfold GivesCells at hg
    rw [if_neg hok] at hg
    obtain ⟨rfl, hg1⟩ := hg
    have BD3 : Hid (bad = 2) := Lib.hid (by rw [BD.out, if_pos (by simpa using hok)])
    have G1 := Lib.hid (GW.out.trans hg1)
    clear hok hg1
    go_wp2_with fail
    rw [HP0.out, BD3.out]
    exact ⟨rfl, G1.out⟩
theorem strsP_pos {v : St} {l : List St} (h : strsP v = some l) : 1 ≤ l.length := by
  unfold strsP at h
  split at h
  · injection h with h
    rw [← h]
    exact split_ne _ _
  · cases h
theorem cTexts_any (r : Rul) (ra : Option Addr) (rc : Nat) (v : St) (w : World) (h : SlOf 1 RS w ra r.words) (hwl : r.words.length ≤ 1000000) (hv : v.length ≤ 1000) (hM : MaxV w) :
    Calls Tryz.prog 109 #[.agg #[.string (bs r.name), .bool r.req, .int .i64 r.kind, .int .i64 r.low, .int .i64 r.high, .int .i64 r.count, .slice ra r.words.length rc], .string (bs v)] w (Grows w (.int .i64 (txtBad r v))) := by
  have H := Lib.hid h
  have HM := Lib.hid hM
  have HV := Lib.hid hv
  have HWL := Lib.hid hwl
  clear h hM hv hwl
  obtain ⟨nm, rq, kd, lo, hi, ct, ws⟩ := r
  dsimp only at H HWL ⊢
  obtain ⟨bad, hbad⟩ : ∃ bad, txtBad ⟨nm, rq, kd, lo, hi, ct, ws⟩ v = bad := ⟨_, rfl⟩
  have BD : Hid (txtBad ⟨nm, rq, kd, lo, hi, ct, ws⟩ v = bad) := Lib.hid hbad
  rw [hbad]
  clear hbad
  obtain ⟨P0, hP0⟩ : ∃ P : Ending → World → Prop, P = Grows w (.int .i64 bad) := ⟨_, rfl⟩
  rw [← hP0]
  have HP0 := Lib.hid hP0
  clear hP0
  go_enter Tryz.func109, Tryz.ntmps109
  go_upto_region 1 with (fail)
  have RB := Lib.hid (Row.new w #[.string (bs nm), .bool rq, .int .i64 kd, .int .i64 lo, .int .i64 hi, .int .i64 ct, .slice ra ws.length rc] 51)
  obtain ⟨W, hW⟩ : ∃ W : World, Hid (W = w.alloc (.cells #[.string (bs nm), .bool rq, .int .i64 kd, .int .i64 lo, .int .i64 hi, .int .i64 ct, .slice ra ws.length rc] 51)) := ⟨_, Lib.hid rfl⟩
  have GW : Hid (Gr w W) := Lib.hid (by rw [hW.out]; exact (Gr.refl _).alloc _)
  rw [← hW.out] at RB ⊢
  obtain ⟨PB, hPB⟩ : ∃ N : Nat, Hid (w.heap.size = N) := ⟨_, Lib.hid rfl⟩
  rw [hPB.out] at RB ⊢
  clear hW hPB
  go_wp2_with fail
  refine (strings_any v W (by have := HV.out; omega) (HM.out.gr GW.out)).mono ?_
  intro e w1 hs
  cases hz : strsP v with
  | none =>
    rw [hz] at hs
    obtain ⟨hg, rfl⟩ := hs
    have B2 : Hid (bad = 2) := Lib.hid (by rw [← BD.out]; unfold txtBad; rw [hz])
    have G1 := Lib.hid (GW.out.trans hg)
    have RB1 := Lib.hid (RB.out.gr hg)
    have b2 : w1.cell? ⟨PB, 2, none⟩ = some (.int .i64 kd) := RB1.out.cell 2 (by simp)
    have b5 : w1.cell? ⟨PB, 5, none⟩ = some (.int .i64 ct) := RB1.out.cell 5 (by simp)
    have hb := has_of_cell b2
    clear hg hz
    by_cases h4 : kd = 4
    · have e4 := beq_t h4
      clear h4
      go_wp2_with fail
      rw [HP0.out, B2.out]
      exact ⟨rfl, G1.out⟩
    · have e4 := beq_f h4
      clear h4
      go_wp2_with fail
      rw [HP0.out, B2.out]
      exact ⟨rfl, G1.out⟩
  | some l =>
    rw [hz] at hs
    obtain ⟨hg, B, rfl, hr, hB⟩ := hs
    have LP : Hid (1 ≤ l.length ∧ l.length ≤ 2000) := Lib.hid ⟨strsP_pos hz, by have := strsP_len hz; have := HV.out; omega⟩
    have TB : Hid (bad = if cntR ⟨nm, rq, kd, lo, hi, ct, ws⟩ ≠ 0 ∧ (l.length : Int) ≠ cntR ⟨nm, rq, kd, lo, hi, ct, ws⟩ then 3 else if kd = 4 ∧ ws.contains (l.getD 0 []) = false then 4 else 0) := Lib.hid (by rw [← BD.out]; unfold txtBad; rw [hz])
    have G1 := Lib.hid (GW.out.trans hg)
    have RB1 := Lib.hid (RB.out.gr hg)
    have RL := Lib.hid hr
    have c0 := hr.cell 0 (by simp [strV]; have := LP.out; omega)
    rw [strV_get (by have := LP.out; omega)] at c0
    have hh := has_of_cell c0
    have L0 : l.getD 0 [] = l[0]'(by have := LP.out; omega) := by rw [List.getD_eq_getElem?_getD, List.getElem?_eq_getElem (by have := LP.out; omega)]; rfl
    rw [← L0] at c0
    obtain ⟨s, hs0⟩ : ∃ s, l.getD 0 [] = s := ⟨_, rfl⟩
    rw [hs0] at c0 TB
    have CS := Lib.hid (fun W2 (hg2 : Gr w1 W2) => conS_any ws s ra rc W2 ((H.out.giS G1.out).giS hg2) HWL.out)
    have QQ : Hid (ws.contains s = ws.any (fun x => s == x)) := Lib.hid List.contains_eq_any_beq
    obtain ⟨q, hq⟩ : ∃ q : Bool, ws.any (fun x => s == x) = q := ⟨_, rfl⟩
    rw [hq] at CS QQ
    have b2 : w1.cell? ⟨PB, 2, none⟩ = some (.int .i64 kd) := RB1.out.cell 2 (by simp)
    have b5 : w1.cell? ⟨PB, 5, none⟩ = some (.int .i64 ct) := RB1.out.cell 5 (by simp)
    have b6 : w1.cell? ⟨PB, 6, none⟩ = some (.slice ra ws.length rc) := RB1.out.cell 6 (by simp)
    have hb := has_of_cell b2
    obtain ⟨n, hn⟩ : ∃ n : Nat, Hid (l.length = n) := ⟨_, Lib.hid rfl⟩
    rw [hn.out] at TB ⊢
    have n0 : (0 : Int) < (n : Int) := by have := LP.out; have := hn.out; omega
    rw [QQ.out] at TB
    clear hg hr hz L0 hs0 hq QQ hB
    by_cases h4 : kd = 4
    · have e4 := beq_t h4
      have TB2 : Hid (bad = if (n : Int) ≠ 1 then 3 else if q = false then 4 else 0) := Lib.hid (by
        rw [TB.out]
        simp [cntR, h4])
      clear h4 TB
      by_cases h1 : (n : Int) = 1
      · have z1 := bne_f h1
        cases q with
        | true =>
          have B3 : Hid (bad = 0) := Lib.hid (by rw [TB2.out, if_neg (fun k => k h1), if_neg (by simp)])
          clear h1
          go_wp2_with fail
          refine wp_region_grows (by kernel_rfl) (by kernel_rfl) ?_
          repeat (go_big_quiet_step (first | (go_at_call 85; exact calls_grows (CS.out _ (by first | exact Gr.refl _ | exact (Gr.refl _).drewN _ | exact (Gr.refl _).xt _ _)))))
          refine wpQuiet_nil ?_
          rintro _ ⟨⟨O, d9⟩, rfl⟩
          go_wp2_with fail
          rw [HP0.out, B3.out]
          exact ⟨rfl, G1.out.xt _ _⟩
        | false =>
          have B3 : Hid (bad = 4) := Lib.hid (by rw [TB2.out, if_neg (fun k => k h1), if_pos rfl])
          clear h1
          go_wp2_with fail
          refine wp_region_grows (by kernel_rfl) (by kernel_rfl) ?_
          repeat (go_big_quiet_step (first | (go_at_call 85; exact calls_grows (CS.out _ (by first | exact Gr.refl _ | exact (Gr.refl _).drewN _ | exact (Gr.refl _).xt _ _)))))
          refine wpQuiet_nil ?_
          rintro _ ⟨⟨O, d9⟩, rfl⟩
          go_wp2_with fail
          rw [HP0.out, B3.out]
          exact ⟨rfl, G1.out.xt _ _⟩
      · have z1 := bne_t h1
        have B3 : Hid (bad = 3) := Lib.hid (by rw [TB2.out, if_pos h1])
        clear h1
        go_wp2_with fail
        rw [HP0.out, B3.out]
        exact ⟨rfl, G1.out⟩
    · have e4 := beq_f h4
      have TB2 : Hid (bad = if ct ≠ 0 ∧ (n : Int) ≠ ct then 3 else 0) := Lib.hid (by
        rw [TB.out]
        simp [cntR, h4])
      clear h4 TB
      by_cases h0 : ct = 0
      · have z0 := bne_f h0
        have B3 : Hid (bad = 0) := Lib.hid (by rw [TB2.out, if_neg (fun k => k.1 h0)])
        clear h0
        go_wp2_with fail
        refine wp_region_grows (by kernel_rfl) (by kernel_rfl) ?_
        repeat (go_big_quiet_step (first | (go_at_call 85; exact calls_grows (CS.out _ (by first | exact Gr.refl _ | exact (Gr.refl _).drewN _ | exact (Gr.refl _).xt _ _)))))
        refine wpQuiet_nil ?_
        rintro _ ⟨⟨O, d9⟩, rfl⟩
        go_wp2_with fail
        rw [HP0.out, B3.out]
        exact ⟨rfl, G1.out.xt _ _⟩
      · have z0 := bne_t h0
        by_cases h1 : (n : Int) = ct
        · have z1 := bne_f h1
          have B3 : Hid (bad = 0) := Lib.hid (by rw [TB2.out, if_neg (fun k => k.2 h1)])
          clear h0 h1
          go_wp2_with fail
          refine wp_region_grows (by kernel_rfl) (by kernel_rfl) ?_
          repeat (go_big_quiet_step (first | (go_at_call 85; exact calls_grows (CS.out _ (by first | exact Gr.refl _ | exact (Gr.refl _).drewN _ | exact (Gr.refl _).xt _ _)))))
          refine wpQuiet_nil ?_
          rintro _ ⟨⟨O, d9⟩, rfl⟩
          go_wp2_with fail
          rw [HP0.out, B3.out]
          exact ⟨rfl, G1.out.xt _ _⟩
        · have z1 := bne_t h1
          have B3 : Hid (bad = 3) := Lib.hid (by rw [TB2.out, if_pos ⟨h0, h1⟩])
          clear h0 h1
          go_wp2_with fail
          rw [HP0.out, B3.out]
          exact ⟨rfl, G1.out⟩
theorem cBroken_any (ts : Tr) (ta : Option Addr) (tc : Nat) (n : Nod) (a : Option Addr) (cap : Nat) (r : Rul) (ra : Option Addr) (rc : Nat) (w : World) (h : SlOf 3 RNod w ta ts) (hc : chkT ts = 0) (hnp : SlOf 2 RPrp w a n.props) (hn : NodOk n) (hw : SlOf 1 RS w ra r.words) (hwl : r.words.length ≤ 1000000) (hM : MaxV w) :
    Calls Tryz.prog 83 #[.agg #[.slice ta ts.length tc], .agg #[.int .i64 n.parent, .string (bs n.name), .slice a n.props.length cap], .agg #[.string (bs r.name), .bool r.req, .int .i64 r.kind, .int .i64 r.low, .int .i64 r.high, .int .i64 r.count, .slice ra r.words.length rc]] w (Grows w (.int .i64 (brkP ts n r))) := by
  have H := Lib.hid h
  have HC := Lib.hid hc
  have HNP := Lib.hid hnp
  have HN := Lib.hid hn
  have HW := Lib.hid hw
  have HWL := Lib.hid hwl
  have HM := Lib.hid hM
  clear h hc hnp hn hw hwl hM
  obtain ⟨bad, hbad⟩ : ∃ bad, brkP ts n r = bad := ⟨_, rfl⟩
  have BD : Hid (brkP ts n r = bad) := Lib.hid hbad
  rw [hbad]
  have CC := Lib.hid (fun (v : St) W2 (hg : Gr w W2) (hv : v.length ≤ 256) => cCells_any ts ta tc r ra rc v W2 (H.out.gr RNod.mono hg) HC.out (by omega))
  have CT := Lib.hid (fun (v : St) W2 (hg : Gr w W2) (hv : v.length ≤ 256) => cTexts_any r ra rc v W2 (HW.out.giS hg) HWL.out (by omega) (HM.out.gr hg))
  have PV := Lib.hid (fun W2 (hg : Gr w W2) => cProperty_any n a cap r.name W2 (HNP.out.gr RPrp.mono hg) (by have := HN.out.2.1; omega) HN.out.1)
  have VL := Lib.hid (HN.out.val r.name)
  have BD : Hid (bad = match valP n.props r.name with
    | none => if r.req = true then 1 else 0
    | some v => if r.kind = 1 then 0 else if r.kind = 3 ∨ r.kind = 6 then celBad ts r v else if r.kind = 5 ∨ r.kind = 4 then txtBad r v else if v = [] then 0 else 2) := Lib.hid (by rw [← hbad]; rfl)
  obtain ⟨cb, hcb⟩ : ∃ cb : St → Int, cb = celBad ts r := ⟨_, rfl⟩
  obtain ⟨tb, htb⟩ : ∃ tb : St → Int, tb = txtBad r := ⟨_, rfl⟩
  rw [← hcb] at BD CC
  rw [← htb] at BD CT
  clear hbad hcb htb
  obtain ⟨nm, rq, kd, lo, hi, ct, ws⟩ := r
  dsimp only at BD CC CT PV VL ⊢
  obtain ⟨o, ho⟩ : ∃ o, valP n.props nm = o := ⟨_, rfl⟩
  rw [ho] at BD PV VL
  clear ho
  obtain ⟨P0, hP0⟩ : ∃ P : Ending → World → Prop, P = Grows w (.int .i64 bad) := ⟨_, rfl⟩
  rw [← hP0]
  have HP0 := Lib.hid hP0
  clear hP0
  go_enter Tryz.func83, Tryz.ntmps83
  go_upto_region 1 with (fail)
  have e1 : (w.alloc (.cells #[.slice ta ts.length tc] 29)).heap.size = w.heap.size + 1 := by simp
  have e2 : ((w.alloc (.cells #[.slice ta ts.length tc] 29)).alloc (.cells #[.int .i64 n.parent, .string (bs n.name), .slice a n.props.length cap] 86)).heap.size = w.heap.size + 1 + 1 := by simp
  have RT := Lib.hid (((Row.new w #[.slice ta ts.length tc] 29).alloc (.cells #[.int .i64 n.parent, .string (bs n.name), .slice a n.props.length cap] 86)).alloc (.cells #[.string (bs nm), .bool rq, .int .i64 kd, .int .i64 lo, .int .i64 hi, .int .i64 ct, .slice ra ws.length rc] 51))
  have RN := Row.new (w.alloc (.cells #[.slice ta ts.length tc] 29)) #[.int .i64 n.parent, .string (bs n.name), .slice a n.props.length cap] 86
  rw [e1] at RN
  have RN := Lib.hid (RN.alloc (.cells #[.string (bs nm), .bool rq, .int .i64 kd, .int .i64 lo, .int .i64 hi, .int .i64 ct, .slice ra ws.length rc] 51))
  have RB := Row.new ((w.alloc (.cells #[.slice ta ts.length tc] 29)).alloc (.cells #[.int .i64 n.parent, .string (bs n.name), .slice a n.props.length cap] 86)) #[.string (bs nm), .bool rq, .int .i64 kd, .int .i64 lo, .int .i64 hi, .int .i64 ct, .slice ra ws.length rc] 51
  rw [e2] at RB
  have RB := Lib.hid RB
  clear e1 e2
  obtain ⟨W, hW⟩ : ∃ W : World, Hid (W = ((w.alloc (.cells #[.slice ta ts.length tc] 29)).alloc (.cells #[.int .i64 n.parent, .string (bs n.name), .slice a n.props.length cap] 86)).alloc (.cells #[.string (bs nm), .bool rq, .int .i64 kd, .int .i64 lo, .int .i64 hi, .int .i64 ct, .slice ra ws.length rc] 51)) := ⟨_, Lib.hid rfl⟩
  have GW : Hid (Gr w W) := Lib.hid (by rw [hW.out]; exact (((Gr.refl _).alloc _).alloc _).alloc _)
  rw [← hW.out] at RT RN RB ⊢
  obtain ⟨PT, hPT⟩ : ∃ N : Nat, Hid (w.heap.size = N) := ⟨_, Lib.hid rfl⟩
  rw [hPT.out] at RT RN RB ⊢
  clear hW hPT
  obtain ⟨PN, hPN⟩ : ∃ N : Nat, Hid (PT + 1 = N) := ⟨_, Lib.hid rfl⟩
  rw [hPN.out] at RN RB ⊢
  clear hPN
  obtain ⟨PB, hPB⟩ : ∃ N : Nat, Hid (PN + 1 = N) := ⟨_, Lib.hid rfl⟩
  rw [hPB.out] at RB ⊢
  clear hPB
  have n0 := RN.out.cell 0 (by simp)
  have n1 := RN.out.cell 1 (by simp)
  have n2 := RN.out.cell 2 (by simp)
  have b0 := RB.out.cell 0 (by simp)
  simp only [List.getElem_cons_zero, List.getElem_cons_succ] at n0 n1 n2 b0
  have hn := has_of_cell n0
  have hb := has_of_cell b0
  go_wp2_with fail
  refine (PV.out W GW.out).mono ?_
  intro e w1 hv
  obtain ⟨hg, rfl⟩ := hv.form
  have G1 := Lib.hid (GW.out.trans hg)
  have RT1 := Lib.hid (RT.out.gr hg)
  have RB1 := Lib.hid (RB.out.gr hg)
  have t0 := RT1.out.cell 0 (by simp)
  have b0 := RB1.out.cell 0 (by simp)
  have b1 := RB1.out.cell 1 (by simp)
  have b2 := RB1.out.cell 2 (by simp)
  have b3 := RB1.out.cell 3 (by simp)
  have b4 := RB1.out.cell 4 (by simp)
  have b5 := RB1.out.cell 5 (by simp)
  have b6 := RB1.out.cell 6 (by simp)
  simp only [List.getElem_cons_zero, List.getElem_cons_succ] at t0 b0 b1 b2 b3 b4 b5 b6
  have hb := has_of_cell b0
  have ht := has_of_cell t0
  clear hv hg n0 n1 n2 hn
  cases o with
  | none =>
    simp only [Option.getD_none, Option.isSome_none]
    cases rq with
    | true =>
      have B3 : Hid (bad = 1) := Lib.hid (by rw [BD.out]; rfl)
      go_wp2_with fail
      rw [HP0.out, B3.out]
      exact ⟨rfl, G1.out⟩
    | false =>
      have B3 : Hid (bad = 0) := Lib.hid (by rw [BD.out]; rfl)
      go_wp2_with fail
      rw [HP0.out, B3.out]
      exact ⟨rfl, G1.out⟩
  | some v =>
    simp only [Option.getD_some, Option.isSome_some] at VL ⊢
    dsimp only at BD
    by_cases k1 : kd = 1
    · have e1 := beq_t k1
      have B3 : Hid (bad = 0) := Lib.hid (by rw [BD.out, if_pos k1])
      clear k1
      go_wp2_with fail
      rw [HP0.out, B3.out]
      exact ⟨rfl, G1.out⟩
    · have e1 := beq_f k1
      by_cases k3 : kd = 3
      · have e3 := beq_t k3
        have B3 : Hid (bad = cb v) := Lib.hid (by rw [BD.out, if_neg k1, if_pos (.inl k3)])
        clear k1 k3
        go_wp2_with (go_at_call 108; refine (CC.out v w1 G1.out VL.out).mono ?_; rintro e w' ⟨rfl, O, d, rfl⟩)
        rw [HP0.out, B3.out]
        exact ⟨rfl, G1.out.xt _ _⟩
      · have e3 := beq_f k3
        by_cases k6 : kd = 6
        · have e6 := beq_t k6
          have B3 : Hid (bad = cb v) := Lib.hid (by rw [BD.out, if_neg k1, if_pos (.inr k6)])
          clear k1 k3 k6
          go_wp2_with (go_at_call 108; refine (CC.out v w1 G1.out VL.out).mono ?_; rintro e w' ⟨rfl, O, d, rfl⟩)
          rw [HP0.out, B3.out]
          exact ⟨rfl, G1.out.xt _ _⟩
        · have e6 := beq_f k6
          by_cases k5 : kd = 5
          · have e5 := beq_t k5
            have B3 : Hid (bad = tb v) := Lib.hid (by rw [BD.out, if_neg k1, if_neg (fun q => q.elim k3 k6), if_pos (.inl k5)])
            clear k1 k3 k6 k5
            go_wp2_with (go_at_call 109; refine (CT.out v w1 G1.out VL.out).mono ?_; rintro e w' ⟨rfl, O, d, rfl⟩)
            rw [HP0.out, B3.out]
            exact ⟨rfl, G1.out.xt _ _⟩
          · have e5 := beq_f k5
            by_cases k4 : kd = 4
            · have e4 := beq_t k4
              have B3 : Hid (bad = tb v) := Lib.hid (by rw [BD.out, if_neg k1, if_neg (fun q => q.elim k3 k6), if_pos (.inr k4)])
              clear k1 k3 k6 k5 k4
              go_wp2_with (go_at_call 109; refine (CT.out v w1 G1.out VL.out).mono ?_; rintro e w' ⟨rfl, O, d, rfl⟩)
              rw [HP0.out, B3.out]
              exact ⟨rfl, G1.out.xt _ _⟩
            · have e4 := beq_f k4
              by_cases hv0 : v = []
              · have B3 : Hid (bad = 0) := Lib.hid (by rw [BD.out, if_neg k1, if_neg (fun q => q.elim k3 k6), if_neg (fun q => q.elim k5 k4), if_pos hv0])
                have h0 : v.isEmpty = true := by rw [hv0]; rfl
                clear k1 k3 k6 k5 k4 hv0
                go_wp2_with fail
                rw [HP0.out, B3.out]
                exact ⟨rfl, G1.out⟩
              · have B3 : Hid (bad = 2) := Lib.hid (by rw [BD.out, if_neg k1, if_neg (fun q => q.elim k3 k6), if_neg (fun q => q.elim k5 k4), if_neg hv0])
                have h0 : v.isEmpty = false := by simpa using hv0
                clear k1 k3 k6 k5 k4 hv0
                go_wp2_with fail
                rw [HP0.out, B3.out]
                exact ⟨rfl, G1.out⟩
end Go.Proofs.YtbpkndiecomggaaGreatDoor

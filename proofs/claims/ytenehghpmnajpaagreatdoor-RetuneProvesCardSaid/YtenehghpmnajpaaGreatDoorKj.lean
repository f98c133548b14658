/- Lists of rates in memory; the variable off. Contract of clock.rates. (several texts in one, by wip/tools/merge.py) -/
import Derived.Test.YtenehghpmnajpaaGreatDoorKi
import Derived.Test.YtenehghpmnajpaaGreatDoorKc
/-! Lists of rates in memory; the variable off. -/
set_option linter.unusedVariables false
set_option linter.unusedSimpArgs false
namespace Go.Proofs.YtenehghpmnajpaaGreatDoor
open Go.RowKit
open Classical

/-- The variable that holds the rate of a clock that does not run. -/
def OffV (w : World) : Prop := w.cell? ⟨0, 0, none⟩ = some (.int .i64 0) ∧ w.cell? ⟨0, 1, none⟩ = some (.int .i64 1)
theorem OffV.gr {w w' : World} (h : OffV w) (hg : Gr w w') : OffV w' := ⟨cell_gr hg h.1, cell_gr hg h.2⟩
def numR (r : Rt) : Int := match r with | some (n, _) => n | none => 0
def denR (r : Rt) : Int := match r with | some (_, d) => d | none => 1
def prR (r : Rt) : Int × Int := (numR r, denR r)
/-- The cells of pairs. -/
def encP (ps : List (Int × Int)) : List Value := ps.flatMap fun r => [.int .i64 r.1, .int .i64 r.2]
theorem encP_len (ps : List (Int × Int)) : (encP ps).length = ps.length * 2 := flat_len (fun r : Int × Int => [.int .i64 r.1, .int .i64 r.2]) 2 (fun _ => rfl) ps
theorem encP_at (ps : List (Int × Int)) (i : Nat) (h : i < ps.length) : (encP ps)[i * 2]'(by rw [encP_len]; omega) = .int .i64 ps[i].1 ∧ (encP ps)[i * 2 + 1]'(by rw [encP_len]; omega) = .int .i64 ps[i].2 := by
  have h0 := flat_at (fun r : Int × Int => [Value.int .i64 r.1, .int .i64 r.2]) 2 (fun _ => rfl) ps i 0 h (by omega)
  have h1 := flat_at (fun r : Int × Int => [Value.int .i64 r.1, .int .i64 r.2]) 2 (fun _ => rfl) ps i 1 h (by omega)
  rw [Nat.add_zero] at h0
  exact ⟨Option.some.inj ((List.getElem?_eq_getElem (by rw [encP_len]; omega)).symm.trans h0), Option.some.inj ((List.getElem?_eq_getElem (by rw [encP_len]; omega)).symm.trans h1)⟩
theorem encP_set (ps : List (Int × Int)) : ∀ (i : Nat) (n d : Int), ((encP ps).set (i * 2) (.int .i64 n)).set (i * 2 + 1) (.int .i64 d) = encP (ps.set i (n, d)) := by
  induction ps with
  | nil => intro i n d; simp [encP]
  | cons p ps ih =>
    intro i n d
    cases i with
    | zero => simp [encP]
    | succ i =>
      have := ih i n d
      simp only [encP, List.flatMap_cons, List.set_cons_succ, List.cons_append, List.nil_append] at this ⊢
      rw [show (i + 1) * 2 = i * 2 + 1 + 1 by omega]
      simp only [List.set_cons_succ]
      rw [this]
/-- The rates so far, and noughts. -/
def ratV (l : List Clk) (s : List Int) (k : Nat) : List (Int × Int) := (rts (l.take k) (s.take k)).map prR ++ List.replicate (l.length - k) (0, 0)
theorem ratV_len (l : List Clk) (s : List Int) (k : Nat) (h : k ≤ l.length) (hs : s.length = l.length) : (ratV l s k).length = l.length := by
  simp only [ratV, List.length_append, List.length_map, List.length_replicate]
  rw [rts_len _ _ (by simp; omega)]; simp; omega
theorem ratV_low (l : List Clk) (s : List Int) (k : Nat) (h : k ≤ l.length) (hs : s.length = l.length) (q : Nat) (hq : q < k) : (ratV l s k)[q]'(by rw [ratV_len l s k h hs]; omega) = prR ((rts (l.take k) (s.take k)).getD q none) := by
  have hl : (rts (l.take k) (s.take k)).length = k := by rw [rts_len _ _ (by simp; omega)]; simp; omega
  simp only [ratV]
  rw [List.getElem_append_left (by simp; omega), List.getElem_map, List.getD_eq_getElem?_getD, List.getElem?_eq_getElem (by omega)]; rfl
theorem ratV_step (l : List Clk) (s : List Int) (k : Nat) (h : k < l.length) (hs : s.length = l.length) : (ratV l s k).set k (prR (stepR (rts (l.take k) (s.take k)) l[k] (s[k]'(by omega)))) = ratV l s (k + 1) := by
  have hl : (rts (l.take k) (s.take k)).length = k := by rw [rts_len _ _ (by simp; omega)]; simp; omega
  have hr : List.replicate (l.length - k) ((0, 0) : Int × Int) = (0, 0) :: List.replicate (l.length - (k + 1)) (0, 0) := by
    rw [show l.length - k = (l.length - (k + 1)) + 1 by omega, List.replicate_succ]
  simp only [ratV]
  rw [List.set_append_right _ _ (by simp; omega), List.length_map, hl, Nat.sub_self, hr, List.set_cons_zero, rts_take l s k h (by omega), List.map_append, List.append_assoc]
  rfl
theorem made_pair (n : Nat) : (madeCells #[Value.int .i64 0, .int .i64 0] (n * 2)).toList = encP (List.replicate n (0, 0)) := by
  apply List.ext_getElem
  · rw [encP_len]; simp [madeCells]
  · intro i h1 h2
    have hz : ∀ v ∈ encP (List.replicate n (0, 0)), v = .int .i64 0 := by
      intro v hv
      simp only [encP, List.mem_flatMap] at hv
      obtain ⟨p, hp, hv⟩ := hv
      obtain ⟨_, rfl⟩ := List.mem_replicate.1 hp
      simpa using hv
    rw [hz _ (List.getElem_mem h2)]
    have hm : ∀ v ∈ (madeCells #[Value.int .i64 0, .int .i64 0] (n * 2)).toList, v = .int .i64 0 := by
      intro v hv
      simp only [madeCells, Array.toList_map, List.mem_map] at hv
      obtain ⟨j, _, rfl⟩ := hv
      rcases Nat.mod_two_eq_zero_or_one j with e | e <;> simp [e]
    exact hm _ (List.getElem_mem h1)
theorem infoRate : (Tryz.prog.info? 93).map (fun i => (i.zero, i.size, i.bytes)) = some (some (.agg #[.int .i64 0, .int .i64 0]), 2, 16) := by kernel_rfl
end Go.Proofs.YtenehghpmnajpaaGreatDoor

/-! Contract of clock.rates. -/
set_option linter.unusedVariables false
set_option linter.unusedSimpArgs false
namespace Go.Proofs.YtenehghpmnajpaaGreatDoor
open Go.RowKit
open Classical

theorem ratV_full (l : List Clk) (s : List Int) (hs : s.length = l.length) : ratV l s l.length = (rts l s).map prR := by
  simp only [ratV, List.take_length, Nat.sub_self, List.replicate_zero, List.append_nil]
  rw [List.take_of_length_le (by omega)]
/-- The rates, in a row of the call's own. -/
def GivesRates (w : World) (l : List Clk) (s : List Int) (e : Ending) (w' : World) : Prop :=
  ∃ RB, e = .returned (.slice (some ⟨RB, 0, none⟩) l.length l.length) ∧ Row w' RB 93 (encP ((rts l s).map prR)) ∧ w.heap.size ≤ RB ∧ Gr w w'
/-- The rate of a clock behind its parent's. -/
def stepP (c : Clk) (h : Int) : Rt → Rt
  | none => none
  | some (n, d) => scaleR c h n d
theorem stepR_of {out : List Rt} {c : Clk} {k : Int} (h1 : c.kind ≠ 1) : stepR out c k = stepP c (chC c k) (out.getD (parC c k).toNat none) := by
  rw [stepR, if_neg h1]
  cases out.getD (parC c k).toNat none <;> rfl
theorem eql_rate (a b c d : Int) (w : World) : (binOp .eql 93 (.agg #[.int .i64 a, .int .i64 b]) (.agg #[.int .i64 c, .int .i64 d])).run Tryz.prog w = .ok (.bool (a == c && b == d)) w := by
  have hu : Tryz.prog.underlying 93 = some (.struct (Tryz.prog.fieldsOf 93)) := by kernel_rfl
  have hs : Tryz.prog.stoodInHeld 93 = false := by kernel_rfl
  rw [run_eql_struct, run_equalIn_agg w 9999 _ _ _ hu hs]
  cases h1 : (a == c) <;> cases h2 : (b == d) <;> simp [go_sem, h1, h2]

set_option maxRecDepth 100000 in
set_option maxHeartbeats 4000000 in
theorem rates_any (l : List Clk) (s : List Int) (al aS : Option Addr) (cl cs : Nat) (w : World) (h : SlOf 5 RClk w al l) (hs : SlOf 1 RI w aS s) (hc : cchk l = 0) (hset : SetOk l s) (hoff : OffV w) :
    Calls Tryz.prog 134 #[.slice al l.length cl, .slice aS s.length cs] w (GivesRates w l s) := by
  obtain ⟨nb, ok, pr, fs⟩ := cchk_zero hc
  have hl := small_len nb
  have H := Lib.hid h
  have HS := Lib.hid hs
  have OK := Lib.hid ok
  have HT := Lib.hid hset
  have HO := Lib.hid hoff
  have NB := Lib.hid nb
  have RO := Lib.hid (rts_ok_take ok fs hset)
  clear h hs ok hset hoff hc nb pr fs
  obtain ⟨j0, hj, hy0, hy1, hy2⟩ := info_parts infoRate
  have hmk : ∀ W : World, (Instr.makeSlice 87 (.int .i64 (l.length : Int)) (.int .i64 (l.length : Int))).run Tryz.prog W = .ok (.slice (some ⟨W.heap.size, 0, none⟩) l.length l.length) (W.alloc (.cells (madeCells #[.int .i64 0, .int .i64 0] (l.length * 2)) 93)) := fun W => by
    have hr := run_make (P := Tryz.prog) W 87 93 j0 (.agg #[.int .i64 0, .int .i64 0]) Tryz.underlying87 hj hy0 .i64 .i64 l.length l.length (by omega) (Int.le_refl _) (by rw [hy2]; omega) (by omega)
    simp only [Int.toNat_natCast, hy1] at hr
    exact hr
  go_enter Tryz.func134, Tryz.ntmps134
  go_wp2_with fail
  obtain ⟨W2, hW2⟩ : ∃ W2 : World, Hid (W2 = w.alloc (.cells (madeCells #[.int .i64 0, .int .i64 0] (l.length * 2)) 93)) := ⟨_, Lib.hid rfl⟩
  rw [← hW2.out]
  obtain ⟨RB, hRB⟩ : ∃ RB : Nat, Hid (w.heap.size = RB) := ⟨_, Lib.hid rfl⟩
  rw [hRB.out]
  have R2 : Hid (Row W2 RB 93 (encP (ratV l s 0))) := Lib.hid (by
    rw [hW2.out, ← hRB.out]
    have := Row.new w (madeCells #[.int .i64 0, .int .i64 0] (l.length * 2)) 93
    rw [made_pair] at this
    simpa [ratV, rts, ratesGo] using this)
  have HG2 : Hid (Gr w W2) := Lib.hid (by rw [hW2.out]; exact (Gr.refl _).alloc _)
  have rb : Hid (w.heap.size ≤ RB) := Lib.hid (by rw [hRB.out]; exact Nat.le_refl _)
  clear hW2 hmk
  go_loopw [15] (fun i wr => ∃ k : Nat, k ≤ l.length ∧ i = .int .i64 k ∧ Row wr RB 93 (encP (ratV l s k)) ∧ Gr w wr) (fun i _ => l.length - (intOf i).toNat)
  case atStart => exact ⟨0, Nat.zero_le _, rfl, R2.out, HG2.out⟩
  case round =>
    clear R2 HG2
    obtain ⟨k, hk, rfl, hr, hg⟩ := hrel
    have HR := Lib.hid hr
    have HG := Lib.hid hg
    clear hr hg
    obtain ⟨wo, rfl⟩ : ∃ wo : World, wo = wr := ⟨_, rfl⟩
    by_cases hlt : k < l.length
    · have hls : k < s.length := by have := HT.out.1; omega
      obtain ⟨k0, k1⟩ := HT.out.2 k hlt hls
      obtain ⟨_, hck⟩ := OK.out k hlt
      obtain ⟨fp, fc⟩ := small_at NB.out hlt
      have hpar := pParent_any l s al aS cl cs k
      have CK := Lib.hid hck
      obtain ⟨b, o, rfl, ⟨c0, _⟩, ⟨ap, cp, c1, c1l, c1f, sp⟩, ⟨ac, cc, c2, c2l, c2f, sc⟩, ⟨c4, _⟩, c5, _⟩ := clks_gr H.out HG.out k hlt
      obtain ⟨bs, os, rfl, ⟨q1, y1⟩⟩ := (HS.out.giI HG.out).one k hls
      obtain ⟨hkk, e⟩ := ch_of k0 k1
      obtain ⟨bc, oc, rfl, ⟨q2, y2⟩⟩ := sc.one _ hkk
      rw [← e] at q2 y2
      obtain ⟨j, hj⟩ : ∃ j : Nat, s[k] = j := ⟨_, (Int.toNat_of_nonneg k0).symm⟩
      obtain ⟨x, hx⟩ : ∃ x : Int, chC l[k] s[k] = x := ⟨_, rfl⟩
      rw [hx] at q2 y2
      have e1 : s[k].toNat = j := by omega
      rw [e1] at q2
      rw [hj] at q1
      have j2 : (j : Int) < l[k].choices.length := by omega
      have l1 : (k : Int) < l.length := by omega
      have l2 : (k : Int) < s.length := by omega
      have x1 := has_of_cell q1
      have x2 := has_of_cell q2
      have HX := Lib.hid hx
      have HJ := Lib.hid hj
      have PAR := Lib.hid hpar
      have KK := Lib.hid (show 0 ≤ s[k] ∧ s[k] < l[k].choices.length from ⟨k0, k1⟩)
      have SL : Hid (s.length ≤ 16) := Lib.hid (by have := HT.out.1; omega)
      clear hpar hck sp sc c1f c2f hkk e hx hj e1 y1 k0 k1
      unfold Wide at y2
      go_wp2_with fail
      go_quiet (fail)
      go_wp2_with fail
      obtain ⟨W3, hW3⟩ : ∃ W3 : World, Hid (W3 = (wo.alloc (.cells #[.int .i64 l[k].kind, .slice ap l[k].parents.length cp, .slice (some ⟨bc, oc, none⟩) l[k].choices.length cc, .int .i64 l[k].low, .int .i64 l[k].high] 79)).drewN nq) := ⟨_, Lib.hid rfl⟩
      rw [← hW3.out]
      obtain ⟨B8, hB8⟩ : ∃ B8 : Nat, Hid (wo.heap.size = B8) := ⟨_, Lib.hid rfl⟩
      rw [hB8.out]
      have RX : Hid (Row W3 B8 79 [.int .i64 l[k].kind, .slice ap l[k].parents.length cp, .slice (some ⟨bc, oc, none⟩) l[k].choices.length cc, .int .i64 l[k].low, .int .i64 l[k].high]) := Lib.hid (by rw [hW3.out, ← hB8.out]; exact (Row.new wo _ _).drewN _)
      have R3 : Hid (Row W3 RB 93 (encP (ratV l s k))) := Lib.hid (by rw [hW3.out]; exact (HR.out.alloc _).drewN _)
      have G3 : Hid (Gr w W3) := Lib.hid (by rw [hW3.out]; exact (HG.out.alloc _).drewN _)
      clear hW3 hB8 HR HG c0 c1 c2 c4 c5 q1 q2 x1 x2
      refine (PAR.out W3 (clks_gr H.out G3.out) (HS.out.giI G3.out) hlt hls hl CK.out KK.out.1 KK.out.2 SL.out).mono ?_
      rintro e W4 ⟨rfl, hg4⟩
      have RX4 := Lib.hid (RX.out.gr hg4)
      have R4 := Lib.hid (R3.out.gr hg4)
      have G4 := Lib.hid (G3.out.trans hg4)
      clear hg4 RX R3 G3
      have STEP := Lib.hid (ratV_step l s k hlt HT.out.1)
      have r0 := RX4.out.cell 0 (by simp)
      have rh := RX4.out.has
      simp only [List.getElem_cons_zero] at r0
      have fin : ∀ n d : Int, prR (stepR (rts (l.take k) (s.take k)) l[k] s[k]) = (n, d) → ∀ W, Gr W4 W → Row ((W.setCell ⟨RB, k * 2, none⟩ (.int .i64 n)).setCell ⟨RB, k * 2 + 1, none⟩ (.int .i64 d)) RB 93 (encP (ratV l s (k + 1))) := fun n d hnd W hW => by
        have := ((R4.out.gr hW).set (k * 2) (.int .i64 n)).set (k * 2 + 1) (.int .i64 d)
        rw [encP_set, ← hnd, STEP.out] at this
        exact this
      have FIN := Lib.hid fin
      clear fin
      by_cases h1 : l[k].kind = 1
      · have hp : parC l[k] s[k] = -1 := by rw [parC, if_pos h1]
        rw [hp]
        have SR := Lib.hid (show stepR (rts (l.take k) (s.take k)) l[k] s[k] = some (x, 1) by rw [stepR, if_pos h1, HX.out])
        have VL := Lib.hid (ratV_len l s k hk HT.out.1)
        have e0 := R4.out.cell (k * 2) (by rw [encP_len, VL.out]; omega)
        have e1 := R4.out.cell (k * 2 + 1) (by rw [encP_len, VL.out]; omega)
        have f0 := R4.out.free (k * 2)
        have f1 := R4.out.free (k * 2 + 1)
        have fh := R4.out.has
        clear hp h1
        go_wp2_with fail
        refine ⟨⟨k + 1, by omega, by go_num, FIN.out x 1 (by rw [SR.out]; rfl) _ (Gr.refl _), (G4.out.setc rb.out).setc rb.out⟩, by simp [intOf]; omega⟩
      · obtain ⟨hm, p0, p1⟩ := par_lt CK.out h1 KK.out.1 KK.out.2
        obtain ⟨q, hq⟩ : ∃ q : Nat, parC l[k] s[k] = q := ⟨_, (Int.toNat_of_nonneg p0).symm⟩
        have hqk : q < k := by omega
        have VL := Lib.hid (ratV_len l s k hk HT.out.1)
        obtain ⟨r, hr⟩ : ∃ r : Rt, (rts (l.take k) (s.take k)).getD q none = r := ⟨_, rfl⟩
        have hat := encP_at (ratV l s k) q (by rw [VL.out]; omega)
        rw [ratV_low l s k hk HT.out.1 q hqk, hr] at hat
        have g0 := R4.out.cell (q * 2) (by rw [encP_len, VL.out]; omega)
        have g1 := R4.out.cell (q * 2 + 1) (by rw [encP_len, VL.out]; omega)
        rw [hat.1] at g0
        rw [hat.2] at g1
        have SR0 : Hid (stepR (rts (l.take k) (s.take k)) l[k] s[k] = stepP l[k] x r) := Lib.hid (by rw [stepR_of h1, hq, Int.toNat_natCast, hr, HX.out])
        have e0 := R4.out.cell (k * 2) (by rw [encP_len, VL.out]; omega)
        have e1 := R4.out.cell (k * 2 + 1) (by rw [encP_len, VL.out]; omega)
        have f0 := R4.out.free (k * 2)
        have f1 := R4.out.free (k * 2 + 1)
        have fh := R4.out.has
        have b1 : (l[k].kind == 1) = false := by simp [h1]
        have o0 := (HO.out.gr G4.out).1
        have o1 := (HO.out.gr G4.out).2
        have oh := has_of_cell o0
        have q2 : (q : Int) < l.length := by omega
        rw [hq]
        have HRr := Lib.hid hr
        have EQ := eql_rate
        clear hat hm p0 p1 hq h1 hr
        cases r with
        | none =>
          simp only [prR, numR, denR] at g0 g1
          go_wp2_with fail
          go_quiet (fail)
          go_wp2_with fail
          refine ⟨⟨k + 1, by omega, by go_num, FIN.out 0 1 (by rw [SR0.out]; rfl) _ (by repeat (first | with_reducible exact Gr.refl _ | with_reducible refine Gr.drewN _ ?_)), by first | exact (G4.out.setc rb.out).setc rb.out | exact ((G4.out.drewN _).setc rb.out).setc rb.out⟩, by simp [intOf]; omega⟩
        | some nd =>
          obtain ⟨n, d⟩ := nd
          have hR : validB n d = true ∧ 1 ≤ n := by
            have hlr : (rts (l.take k) (s.take k)).length = k := by rw [rts_len _ _ (by have := HT.out.1; simp; omega)]; simp; omega
            have h9 := RO.out k hk q (by rw [hlr]; exact hqk)
            have e := HRr.out
            rw [List.getD_eq_getElem?_getD, List.getElem?_eq_getElem (by rw [hlr]; exact hqk)] at e
            obtain ⟨h7, h8, _⟩ := h9 n d e
            exact ⟨h7, h8⟩
          obtain ⟨hv, hn1⟩ := hR
          obtain ⟨v1, v2, v3, v4, v5⟩ := valid_parts hv
          have nb : (n == 0) = false := beq_eq_false_iff_ne.2 (by omega)
          simp only [prR, numR, denR] at g0 g1
          clear hv v5
          by_cases h5 : l[k].kind = 5
          · have b5 : (l[k].kind == 5) = true := by simp [h5]
            have b2 : (l[k].kind == 2) = false := by simp [h5]
            have b3 : (l[k].kind == 3) = false := by simp [h5]
            by_cases hx0 : x = 0
            · have SR := Lib.hid (show stepP l[k] x (some (n, d)) = none by simp [stepP, scaleR, h5, hx0])
              have bx : (x == 0) = true := by simp [hx0]
              clear h5 hx0
              go_wp2_with fail
              go_quiet (fail)
              go_wp2_with fail
              refine ⟨⟨k + 1, by omega, by go_num, FIN.out 0 1 (by rw [SR0.out, SR.out]; rfl) _ (by repeat (first | with_reducible exact Gr.refl _ | with_reducible refine Gr.drewN _ ?_ | with_reducible refine Gr.xt _ _ ?_ | with_reducible refine Gr.alloc _ ?_)), ((G4.out.trans (by repeat (first | with_reducible exact Gr.refl _ | with_reducible refine Gr.drewN _ ?_ | with_reducible refine Gr.xt _ _ ?_ | with_reducible refine Gr.alloc _ ?_))).setc rb.out).setc rb.out⟩, by simp [intOf]; omega⟩
            · have SR := Lib.hid (show stepP l[k] x (some (n, d)) = some (n, d) by simp [stepP, scaleR, h5, hx0])
              have bx : (x == 0) = false := by simp [hx0]
              clear h5 hx0
              go_wp2_with fail
              go_quiet (fail)
              go_wp2_with fail
              refine ⟨⟨k + 1, by omega, by go_num, FIN.out n d (by rw [SR0.out, SR.out]; rfl) _ (by repeat (first | with_reducible exact Gr.refl _ | with_reducible refine Gr.drewN _ ?_ | with_reducible refine Gr.xt _ _ ?_ | with_reducible refine Gr.alloc _ ?_)), ((G4.out.trans (by repeat (first | with_reducible exact Gr.refl _ | with_reducible refine Gr.drewN _ ?_ | with_reducible refine Gr.xt _ _ ?_ | with_reducible refine Gr.alloc _ ?_))).setc rb.out).setc rb.out⟩, by simp [intOf]; omega⟩
          · have b5 : (l[k].kind == 5) = false := by simp [h5]
            by_cases h2 : l[k].kind = 2
            · have b2 : (l[k].kind == 2) = true := by simp [h2]
              have SR := Lib.hid (show stepP l[k] x (some (n, d)) = some (oN n d x, oD n d x) by simp [stepP, scaleR, h2])
              clear h5 h2
              go_wp2_with fail
              go_quiet (fail)
              go_wp2_with fail
              refine (over_any n d x _ (by omega) (by omega) (by omega) (by omega)).mono ?_
              rintro e w' ⟨rfl, O1, D1, rfl⟩
              go_wp2_with fail
              refine ⟨⟨k + 1, by omega, by go_num, (FIN.out (oN n d x) (oD n d x) (by rw [SR0.out, SR.out]; rfl) _ (Gr.refl _)).xt O1 D1, ((G4.out.setc rb.out).setc rb.out).xt O1 D1⟩, by simp [intOf]; omega⟩
            · have b2 : (l[k].kind == 2) = false := by simp [h2]
              by_cases h3 : l[k].kind = 3
              · have b3 : (l[k].kind == 3) = true := by simp [h3]
                have SR := Lib.hid (show stepP l[k] x (some (n, d)) = some (tN n d x, tD n d x) by simp [stepP, scaleR, h3])
                clear h5 h2 h3
                go_wp2_with fail
                go_quiet (fail)
                go_wp2_with fail
                refine (times_any n d x _ (by omega) (by omega) (by omega) (by omega)).mono ?_
                rintro e w' ⟨rfl, O1, D1, rfl⟩
                go_wp2_with fail
                refine ⟨⟨k + 1, by omega, by go_num, (FIN.out (tN n d x) (tD n d x) (by rw [SR0.out, SR.out]; rfl) _ (Gr.refl _)).xt O1 D1, ((G4.out.setc rb.out).setc rb.out).xt O1 D1⟩, by simp [intOf]; omega⟩
              · have b3 : (l[k].kind == 3) = false := by simp [h3]
                have SR := Lib.hid (show stepP l[k] x (some (n, d)) = some (n, d) by simp [stepP, scaleR, h2, h3, h5])
                clear h5 h2 h3
                go_wp2_with fail
                go_quiet (fail)
                go_wp2_with fail
                refine ⟨⟨k + 1, by omega, by go_num, FIN.out n d (by rw [SR0.out, SR.out]; rfl) _ (by repeat (first | with_reducible exact Gr.refl _ | with_reducible refine Gr.drewN _ ?_ | with_reducible refine Gr.xt _ _ ?_ | with_reducible refine Gr.alloc _ ?_)), ((G4.out.trans (by repeat (first | with_reducible exact Gr.refl _ | with_reducible refine Gr.drewN _ ?_ | with_reducible refine Gr.xt _ _ ?_ | with_reducible refine Gr.alloc _ ?_))).setc rb.out).setc rb.out⟩, by simp [intOf]; omega⟩
    · obtain rfl : k = l.length := by omega
      go_wp2_with fail
      go_ret
      refine ⟨RB, rfl, ?_, rb.out, HG.out⟩
      have := HR.out
      rwa [ratV_full l s HT.out.1] at this
end Go.Proofs.YtenehghpmnajpaaGreatDoor

/-! Contract of clock.Rates, where the clocks and the setting are right. -/
set_option linter.unusedVariables false
set_option linter.unusedSimpArgs false
namespace Go.Proofs.YtenehghpmnajpaaGreatDoor
open Go.RowKit
open Classical

/-- The rates, in a row of the call's own, and no error. -/
def GivesRates2 (w : World) (l : List Clk) (s : List Int) (e : Ending) (w' : World) : Prop :=
  ∃ RB, e = .returned (.tuple #[.slice (some ⟨RB, 0, none⟩) l.length l.length, .int .i64 0]) ∧ Row w' RB 93 (encP ((rts l s).map prR)) ∧ w.heap.size ≤ RB ∧ Gr w w'
set_option maxRecDepth 100000 in
set_option maxHeartbeats 1000000 in
theorem pRates_any (l : List Clk) (s : List Int) (al aS : Option Addr) (cl cs : Nat) (w : World) (h : SlOf 5 RClk w al l) (hs : SlOf 1 RI w aS s) (hc : cchk l = 0) (hset : SetOk l s) (hoff : OffV w) :
    Calls Tryz.prog 109 #[.slice al l.length cl, .slice aS s.length cs] w (GivesRates2 w l s) := by
  obtain ⟨nb, _⟩ := cchk_zero hc
  have hl := small_len nb
  have hsl : s.length ≤ 16 := by have := hset.1; omega
  have PC := Lib.hid (pCheck_any l al cl w h (by unfold Fit; omega))
  have H := Lib.hid h
  have HS := Lib.hid hs
  have HC := Lib.hid hc
  have HT := Lib.hid hset
  have HO := Lib.hid hoff
  have HD := Lib.hid (decide_eq_true hset)
  rw [HC.out] at PC
  clear nb h hs hc hset hoff
  go_enter Tryz.func109, Tryz.ntmps109
  go_wp2_with fail
  refine PC.out.mono ?_
  rintro e w1 ⟨rfl, hg1⟩
  have G1 := Lib.hid hg1
  clear hg1
  go_wp2_with fail
  refine (pSet_any l s al aS cl cs w1 (clks_gr H.out G1.out) (HS.out.giI G1.out) (by unfold Fit; omega) (by unfold Fit; omega)).mono ?_
  rintro e w' ⟨rfl, rfl⟩
  rw [HD.out]
  go_wp2_with fail
  refine (rates_any l s al aS cl cs w1 (clks_gr H.out G1.out) (HS.out.giI G1.out) HC.out HT.out (HO.out.gr G1.out)).mono ?_
  rintro e w2 ⟨RB, rfl, hr, hb, hg⟩
  have HR := Lib.hid hr
  have G2 := Lib.hid (G1.out.trans hg)
  have hb' : w.heap.size ≤ RB := Nat.le_trans G1.out.size hb
  clear hr hg hb
  go_wp2_with fail
  go_ret2
  exact ⟨RB, rfl, HR.out, hb', G2.out⟩
end Go.Proofs.YtenehghpmnajpaaGreatDoor

/- tree.Check. -/
import Derived.Test.YtdjhnfopdlgliaaTeG
set_option linter.unusedVariables false
set_option linter.unusedSimpArgs false
namespace Go.Proofs.Ytdjhnfopdlgliaa
open Go.RowKit Go.Maps
open Go.ChangeMaps (setBlock)
open Classical

theorem Row.block {w : World} {B T M : Nat} {vs : List Value} (h : Row w B T vs) (hne : M ≠ B) (o : Obj) : Row (setBlock w M o) B T vs := by
  unfold Row at *
  simp only [setBlock]
  rw [Array.getElem?_setIfInBounds_ne hne]; exact h
theorem Gr.block {w w' : World} (h : Gr w w') {M : Nat} (hm : w.heap.size ≤ M) (o : Obj) : Gr w (setBlock w' M o) := by
  refine Gr.of_below ?_
  obtain ⟨h1, h2, h3, h4, h5⟩ := h.below
  refine ⟨h1, h2, h3, by simpa [setBlock] using h4, fun k hk => ?_⟩
  simp only [setBlock]
  rw [Array.getElem?_setIfInBounds_ne (by omega)]; exact h5 k hk
theorem KS.gr {w w' : World} {B : Nat} {ks : List (St × Int)} (h : KS w B ks) (hg : Gr w w') : KS w' B ks := by
  obtain ⟨es, clk, hb, h⟩ := h
  obtain ⟨O, d, rfl⟩ := hg
  exact ⟨es, clk, by rw [block_xt w O d B (Array.getElem?_eq_some_iff.1 hb).1]; exact hb, h⟩
theorem KS.new (w : World) : KS (w.alloc (.map #[] 0)) w.heap.size [] := ⟨#[], 0, heap_alloc_new w _, rfl, fun e h => by simp at h, fun k h => by simp at h⟩
theorem wpList_mapUpdate_run {P : Program} (w : World) {ops : Array Oper} {rest : List Oper} {o : Oper} {a : Act} {Q : Exit → Act → World → Prop}
    (hg : o.guard = none) (m x v : Operand) (t : TypeId) (hop : o.op = Op.mapUpdate t m x v) (mv key val : Value) (hm : a.eval m = mv) (hx : a.eval x = key) (hv : a.eval v = val)
    {w' : World} (hrun : (Instr.mapUpdate t mv key val).run P w = .ok () w') (hK : wpList P ops Q rest (a.put o.dst undef) w') : wpList P ops Q (o :: rest) a w := by
  refine wpList_plain hg fun K' hK' => ?_
  unfold Oper.wp
  simp [execOp, hop, hm, hx, hv, hrun, Result.andThen]
  exact hK' _ _ hK
theorem big_false {ts : Tr} (h : ∀ j (hj : j < ts.length), bigN ts[j] = false) : ts.any bigN = false := by
  rw [List.any_eq_false]
  intro x hx
  obtain ⟨j, hj, rfl⟩ := List.getElem_of_mem hx
  simp [h j hj]
theorem big_true {ts : Tr} {k : Nat} (h : k < ts.length) (q : bigN ts[k] = true) : ts.any bigN = true := List.any_eq_true.2 ⟨_, List.getElem_mem h, q⟩
theorem chkT_len {ts : Tr} (h : ts.length = 0 ∨ 120 < ts.length) : chkT ts = 3 := by unfold chkT; rw [if_pos h]
theorem chkT_big {ts : Tr} (h : ¬ (ts.length = 0 ∨ 120 < ts.length)) (q : ts.any bigN = true) : chkT ts = 3 := by unfold chkT; rw [if_neg h, if_pos q]
theorem chkT_rest {ts : Tr} (h : ¬ (ts.length = 0 ∨ 120 < ts.length)) (q : ts.any bigN = false) : chkT ts = if namedT ts = false then 1 else if (walkN ts ts.length).isNone then 12 else if dupT ts then 5 else if (List.range ts.length).any (fun i => decide (8 < depN ts i (i : Int))) then 2 else 0 := by
  unfold chkT; rw [if_neg h, if_neg (by simp [q])]
theorem dup_iff {ts : Tr} : dupT ts = true ↔ ∃ i, ∃ h : i < ts.length, 0 < i ∧ ((ts.take i).map keyN).contains (keyN ts[i]) = true := by
  unfold dupT
  rw [List.any_eq_true]
  constructor
  · rintro ⟨i, hi, h⟩
    rw [List.mem_range] at hi
    rw [List.getD_eq_getElem?_getD, List.getElem?_eq_getElem hi, Bool.and_eq_true] at h
    exact ⟨i, hi, by simpa using h.1, h.2⟩
  · rintro ⟨i, hi, h0, h⟩
    refine ⟨i, List.mem_range.2 hi, ?_⟩
    rw [List.getD_eq_getElem?_getD, List.getElem?_eq_getElem hi, Bool.and_eq_true]
    exact ⟨by simpa using h0, h⟩
theorem named_short {ts : Tr} (h : namedT ts = true) {k : Nat} (hk : k < ts.length) : ts[k].name.length ≤ 1000 := by
  have := named_iff.1 h k hk
  rw [nodNm_eq, Bool.and_eq_true] at this
  have := this.1
  by_cases h0 : k = 0
  · simp [hdrN, h0] at this
    subst h0
    simp [this.2]
  · simp [hdrN, h0, nameOk] at this
    omega
set_option maxRecDepth 100000 in
set_option maxHeartbeats 4000000 in
theorem treeCheck_any (ts : Tr) (a : Option Addr) (cap : Nat) (w : World) (h : SlOf 3 RNod w a ts) (hf : Fit ts.length) :
    Calls Try.prog 17 #[.agg #[.slice a ts.length cap]] w (Grows w (.int .i64 (chkT ts))) := by
  unfold Fit at hf
  have H := Lib.hid h
  clear h
  by_cases hlen : ts.length = 0 ∨ 120 < ts.length
  · have C := Lib.hid (chkT_len hlen)
    by_cases h0 : ts.length = 0
    · have hb : ((ts.length : Int) == 0) = true := by simp [h0]
      clear h0 hlen
      go_enter Try.func17, Try.ntmps17
      go_wp2_with fail
      go_ret
      exact ⟨ret_int C.out.symm, (Gr.refl _).alloc _⟩
    · have hb : ((ts.length : Int) == 0) = false := by rw [beq_eq_false_iff_ne]; omega
      have hb2 : decide ((120 : Int) < (ts.length : Int)) = true := by simp; omega
      clear h0 hlen
      go_enter Try.func17, Try.ntmps17
      go_wp2_with fail
      go_ret
      exact ⟨ret_int C.out.symm, (Gr.refl _).alloc _⟩
  · have HL := Lib.hid hlen
    have hb : ((ts.length : Int) == 0) = false := by rw [beq_eq_false_iff_ne]; omega
    have hb2 : decide ((120 : Int) < (ts.length : Int)) = false := by simp; omega
    have h120 : ts.length ≤ 120 := by omega
    clear hlen
    go_enter Try.func17, Try.ntmps17
    go_wp2_with fail
    have RB := Lib.hid (Row.new w #[.slice a ts.length cap] 32)
    obtain ⟨W1, hW1⟩ : ∃ W : World, Hid (W = w.alloc (.cells #[.slice a ts.length cap] 32)) := ⟨_, Lib.hid rfl⟩
    rw [← hW1.out] at RB ⊢
    have G1 : Hid (Gr w W1) := Lib.hid (by rw [hW1.out]; exact (Gr.refl _).alloc _)
    obtain ⟨P0, hP0⟩ : ∃ N : Nat, Hid (w.heap.size = N) := ⟨_, Lib.hid rfl⟩
    rw [hP0.out] at RB ⊢
    clear hW1
    go_loopw [23] (fun i wr => ∃ k : Nat, k ≤ ts.length ∧ i = .int .i64 k ∧ (∀ j (hj : j < k) (hjl : j < ts.length), bigN ts[j] = false) ∧ Row wr P0 32 [.slice a ts.length cap] ∧ Gr w wr) (fun i _ => ts.length - (intOf i).toNat)
    case atStart => exact ⟨0, Nat.zero_le _, rfl, fun j h => absurd h (by omega), RB.out, G1.out⟩
    case round =>
      obtain ⟨k, hk, rfl, hal, hrb, hg⟩ := hrel
      have HA := Lib.hid hal
      have HRB := Lib.hid hrb
      have HG := Lib.hid hg
      clear hal hrb hg RB G1
      by_cases hlt : k < ts.length
      · obtain ⟨b, o, pa, pc, rfl, c0, c1, c2, hps, hpf, hw, hnl⟩ := nods_at (H.out.gr RNod.mono HG.out) k hlt
        obtain ⟨n, hn⟩ : ∃ n, n = ts[k] := ⟨_, rfl⟩
        have HN := Lib.hid hn
        rw [← hn] at c0 c1 c2 hps hpf hw hnl
        clear hn
        have hh := has_of_cell c0
        have HPS := Lib.hid hps
        unfold Fit at hpf
        clear hps
        by_cases hq : 24 < n.props.length
        · have hqb : decide ((24 : Int) < (n.props.length : Int)) = true := by simp; omega
          have B : Hid (chkT ts = 3) := Lib.hid (chkT_big HL.out (big_true hlt (by rw [← HN.out]; simp [bigN, hq])))
          clear hq
          go_wp2_with fail
          go_ret
          exact ⟨ret_int B.out.symm, HG.out.alloc _⟩
        · have hqb : decide ((24 : Int) < (n.props.length : Int)) = false := by simp; omega
          have HQ := Lib.hid hq
          clear hq
          have hcp := conPrp_any n.props pa pc (wr.alloc (.cells #[.int .i64 n.parent, .string (bs n.name), .slice pa n.props.length pc] 26)) (HPS.out.gr RPrp.mono ((Gr.refl _).alloc _)) (by unfold Fit; omega)
          have HCP := Lib.hid hcp
          clear hcp
          by_cases hv : n.props.any (fun p => decide (256 < p.val.length)) = true
          · have B : Hid (chkT ts = 3) := Lib.hid (chkT_big HL.out (big_true hlt (by rw [← HN.out]; simp only [bigN, hv, Bool.or_true])))
            rw [hv] at HCP
            clear hv
            go_wp2_with (go_at_call 29; refine HCP.out.mono ?_; rintro e w' ⟨rfl, O, d, rfl⟩)
            go_ret
            exact ⟨ret_int B.out.symm, (HG.out.alloc _).xt _ _⟩
          · rw [Bool.not_eq_true] at hv
            have B : Hid (bigN ts[k] = false) := Lib.hid (by rw [← HN.out]; simp only [bigN, hv, Bool.or_false]; simpa using HQ.out)
            rw [hv] at HCP
            clear hv
            go_wp2_with (go_at_call 29; refine HCP.out.mono ?_; rintro e w' ⟨rfl, O, d, rfl⟩)
            go_roundw
            case rel =>
              refine ⟨k + 1, by omega, by go_num, fun j hj hjl => ?_, (HRB.out.alloc _).xt _ _, (HG.out.alloc _).xt _ _⟩
              by_cases e : j = k
              · subst e; exact B.out
              · exact HA.out j (by omega) hjl
            case measure => simp [intOf]; omega
      · have NB : Hid (ts.any bigN = false) := Lib.hid (big_false fun j hj => HA.out j (by omega) hj)
        have b0 : wr.cell? ⟨P0, 0, none⟩ = some (.slice a ts.length cap) := HRB.out.cell 0 (by simp)
        clear HA hk
        have CR := Lib.hid (chkT_rest HL.out NB.out)
        go_wp2_with fail
        refine (named_any ts a cap wr (H.out.gr RNod.mono HG.out) (by omega)).mono ?_
        rintro e w1 ⟨rfl, hg1⟩
        have HG1 := Lib.hid (HG.out.trans hg1)
        have HRB1 := Lib.hid (HRB.out.gr hg1)
        have b1 : w1.cell? ⟨P0, 0, none⟩ = some (.slice a ts.length cap) := HRB1.out.cell 0 (by simp)
        clear hg1 b0 HG HRB
        by_cases hnm : namedT ts = true
        · have HNM := Lib.hid hnm
          rw [hnm]
          clear hnm
          go_wp2_with fail
          refine (walked_any ts a cap w1 (H.out.gr RNod.mono HG1.out) (by omega) (named_par HNM.out) (named_root HNM.out)).mono ?_
          rintro e w2 ⟨rfl, hg2⟩
          have HG2 := Lib.hid (HG1.out.trans hg2)
          have HRB2 := Lib.hid (HRB1.out.gr hg2)
          have b2 : w2.cell? ⟨P0, 0, none⟩ = some (.slice a ts.length cap) := HRB2.out.cell 0 (by simp)
          clear hg2 b1 HG1 HRB1
          by_cases hwk : (walkN ts ts.length).isSome = true
          · have HWK := Lib.hid hwk
            rw [hwk]
            clear hwk
            have hmm := @run_makeMap Try.prog
            have hh2 := has_of_cell b2
            go_wp2_with fail
            have KM := Lib.hid (KS.new w2)
            obtain ⟨W3, hW3⟩ : ∃ W : World, Hid (W = w2.alloc (.map #[] 0)) := ⟨_, Lib.hid rfl⟩
            have G23 : Hid (Gr w2 W3) := Lib.hid (by rw [hW3.out]; exact (Gr.refl _).alloc _)
            have HG3 := Lib.hid (HG2.out.trans G23.out)
            have HRB3 := Lib.hid (HRB2.out.gr G23.out)
            have mb := Lib.hid HG2.out.size
            have pm := Lib.hid (show w2.heap.size ≠ P0 by unfold Has at hh2; omega)
            rw [← hW3.out] at KM ⊢
            obtain ⟨MB, hMB⟩ : ∃ N : Nat, Hid (w2.heap.size = N) := ⟨_, Lib.hid rfl⟩
            rw [hMB.out] at KM mb pm ⊢
            clear hmm hh2 b2 HG2 HRB2 G23 hW3 hMB
            go_loopw [47] (fun i wr => ∃ k : Nat, k ≤ ts.length ∧ i = .int .i64 k ∧ KS wr MB ((ts.take k).map keyN) ∧ (∀ j (hj : j < k) (hjl : j < ts.length), 0 < j → ((ts.take j).map keyN).contains (keyN ts[j]) = false) ∧ Row wr P0 32 [.slice a ts.length cap] ∧ Gr w wr) (fun i _ => ts.length - (intOf i).toNat)
            case atStart => exact ⟨0, Nat.zero_le _, rfl, KM.out, fun j h => absurd h (by omega), HRB3.out, HG3.out⟩
            case round =>
              clear KM HRB3 HG3
              obtain ⟨k, hk, rfl, hks, hal, hrb, hg⟩ := hrel
              have HK := Lib.hid hks
              have HA := Lib.hid hal
              have HRB := Lib.hid hrb
              have HG := Lib.hid hg
              clear hks hal hrb hg
              by_cases hlt : k < ts.length
              · obtain ⟨b, o, pa, pc, rfl, c0, c1, c2, hps, hpf, hw, hnl⟩ := nods_at (H.out.gr RNod.mono HG.out) k hlt
                have hsh := named_short HNM.out hlt
                obtain ⟨n, hn⟩ : ∃ n, n = ts[k] := ⟨_, rfl⟩
                have HN := Lib.hid hn
                rw [← hn] at c0 c1 c2 hps hpf hw hnl hsh
                clear hn hps
                have hh := has_of_cell c0
                have HSH := Lib.hid (show (keyN n).1.length ≤ 1000 ∧ Wide (keyN n).2 from ⟨hsh, hw⟩)
                clear hsh hw
                have TK : Hid ((ts.take (k + 1)).map keyN = (ts.take k).map keyN ++ [keyN n]) := Lib.hid (by rw [List.take_succ_eq_append_getElem hlt, List.map_append, ← HN.out]; rfl)
                obtain ⟨W5, hW5⟩ : ∃ W : World, Hid (W = (wr.alloc (.cells #[.int .i64 n.parent, .string (bs n.name), .slice pa n.props.length pc] 26)).alloc (.cells #[.string (bs n.name), .int .i64 n.parent] 73)) := ⟨_, Lib.hid rfl⟩
                have G5 : Hid (Gr wr W5) := Lib.hid (by rw [hW5.out]; exact ((Gr.refl _).alloc _).alloc _)
                have K5 := Lib.hid (HK.out.gr G5.out)
                have RB5 := Lib.hid (HRB.out.gr G5.out)
                have HG5 := Lib.hid (HG.out.trans G5.out)
                have LK := K5.out.look (keyN n) HSH.out
                by_cases hd : 0 < k ∧ ((ts.take k).map keyN).contains (keyN n) = true
                · have kg : decide (0 < k) = true := by simp; omega
                  have B : Hid (chkT ts = 5) := Lib.hid (by
                    rw [CR.out, if_neg (by simp [HNM.out]), if_neg (by have := HWK.out; simp [Option.isSome_iff_ne_none] at this; simp [this]), if_pos (dup_iff.2 ⟨k, hlt, hd.1, by rw [← HN.out]; exact hd.2⟩)])
                  rw [hd.2] at LK
                  unfold keyV keyN at LK
                  rw [hW5.out] at LK
                  clear hd
                  go_wp2_with fail
                  go_ret
                  rw [← hW5.out]
                  exact ⟨ret_int B.out.symm, HG5.out⟩
                · have hnc : ((ts.take k).map keyN).contains (keyN n) = false := by
                    by_cases k0 : k = 0
                    · subst k0; rfl
                    · rw [← Bool.not_eq_true]; exact fun q => hd ⟨by omega, q⟩
                  obtain ⟨o5, hput, hks5⟩ := K5.out.put (keyN n) HSH.out hnc
                  have NC := Lib.hid hnc
                  have HP5 : Hid ((Instr.mapUpdate 71 (.map (some MB)) (.agg #[.string (bs n.name), .int .i64 n.parent]) (.bool true)).run Try.prog ((wr.alloc (.cells #[.int .i64 n.parent, .string (bs n.name), .slice pa n.props.length pc] 26)).alloc (.cells #[.string (bs n.name), .int .i64 n.parent] 73)) = .ok () (setBlock W5 MB o5)) := Lib.hid (by rw [← hW5.out]; exact hput)
                  have KS5 := Lib.hid hks5
                  rw [hnc] at LK
                  unfold keyV keyN at LK
                  rw [hW5.out] at LK
                  clear hd hput hks5 hnc
                  by_cases k0 : 0 < k
                  case' pos => have kg : decide (0 < k) = true := by simp; omega
                  case' neg => have kg : decide (0 < k) = false := by simp; omega
                  all_goals
                    clear k0
                    go_wp2_with (at_mapUpdate; refine wpList_mapUpdate_run _ rfl _ _ _ _ rfl _ _ _ rfl rfl rfl HP5.out ?_)
                    go_roundw
                    case rel =>
                      refine ⟨k + 1, by omega, by go_num, by rw [TK.out]; exact KS5.out, fun j hj hjl h0 => ?_, RB5.out.block pm.out _, HG5.out.block mb.out _⟩
                      by_cases e : j = k
                      · subst e; rw [← HN.out]; exact NC.out
                      · exact HA.out j (by omega) hjl h0
                    case measure => simp [intOf]; omega
              · have ND : Hid (dupT ts = false) := Lib.hid (by
                  rw [← Bool.not_eq_true, dup_iff]
                  rintro ⟨i, hi, h0, q⟩
                  rw [HA.out i (by omega) hi h0] at q
                  cases q)
                have b0 : wr.cell? ⟨P0, 0, none⟩ = some (.slice a ts.length cap) := HRB.out.cell 0 (by simp)
                have CR2 : Hid (chkT ts = if (List.range ts.length).any (fun i => decide (8 < depN ts i (i : Int))) then 2 else 0) := Lib.hid (by
                    rw [CR.out, if_neg (by simp [HNM.out]), if_neg (by have := HWK.out; simp [Option.isSome_iff_ne_none] at this; simp [this]), if_neg (by simp [ND.out])])
                obtain ⟨w6, hw6⟩ : ∃ W, W = wr := ⟨_, rfl⟩
                rw [← hw6] at HRB HG
                clear HA hk HK CR ND
                go_wp2_with fail
                go_loopw [70] (fun i wr => ∃ k : Nat, k ≤ ts.length ∧ i = .int .i64 k ∧ (∀ j (hj : j < k) (hjl : j < ts.length), ¬ 8 < dep ts j) ∧ Row wr P0 32 [.slice a ts.length cap] ∧ Gr w wr) (fun i _ => ts.length - (intOf i).toNat)
                case atStart => rw [← hw6]; exact ⟨0, Nat.zero_le _, rfl, fun j h => absurd h (by omega), HRB.out, HG.out⟩
                case round =>
                  clear b0 HRB HG hw6
                  obtain ⟨k, hk, rfl, hal, hrb, hg⟩ := hrel
                  have HA := Lib.hid hal
                  have HRB := Lib.hid hrb
                  have HG := Lib.hid hg
                  have b0 : wr.cell? ⟨P0, 0, none⟩ = some (.slice a ts.length cap) := hrb.cell 0 (by simp)
                  clear hal hrb hg
                  by_cases hlt : k < ts.length
                  · have DL := dep_le (named_par HNM.out) k hlt
                    by_cases hd : 8 < dep ts k
                    · have kd : decide ((8 : Int) < ((dep ts k : Nat) : Int)) = true := by simp; omega
                      have B : Hid (chkT ts = 2) := Lib.hid (by rw [CR2.out, if_pos (List.any_eq_true.2 ⟨k, List.mem_range.2 hlt, by simpa [dep] using hd⟩)])
                      clear hd
                      go_wp2_with (go_at_call 33; refine (depth_any ts a cap k _ (H.out.gr RNod.mono HG.out) (by omega) (named_par HNM.out) hlt).mono ?_; rintro e w' ⟨rfl, O, d, rfl⟩)
                      go_ret
                      exact ⟨ret_int B.out.symm, HG.out.xt _ _⟩
                    · have kd : decide ((8 : Int) < ((dep ts k : Nat) : Int)) = false := by simp; omega
                      have HD := Lib.hid hd
                      clear hd
                      go_wp2_with (go_at_call 33; refine (depth_any ts a cap k _ (H.out.gr RNod.mono HG.out) (by omega) (named_par HNM.out) hlt).mono ?_; rintro e w' ⟨rfl, O, d, rfl⟩)
                      go_roundw
                      case rel =>
                        refine ⟨k + 1, by omega, by go_num, fun j hj hjl => ?_, HRB.out.xt _ _, HG.out.xt _ _⟩
                        by_cases e : j = k
                        · subst e; exact HD.out
                        · exact HA.out j (by omega) hjl
                      case measure => simp [intOf]; omega
                  · have B : Hid (chkT ts = 0) := Lib.hid (by
                      rw [CR2.out, if_neg]
                      rw [Bool.not_eq_true, List.any_eq_false]
                      intro i hi
                      have := HA.out i (by have := List.mem_range.1 hi; omega) (List.mem_range.1 hi)
                      simpa [dep] using this)
                    go_wp2_with fail
                    go_ret
                    exact ⟨ret_int B.out.symm, HG.out⟩
          · rw [Bool.not_eq_true] at hwk
            have B : Hid (chkT ts = 12) := Lib.hid (by rw [CR.out, if_neg (by simp [HNM.out]), if_pos (by simpa using hwk)])
            rw [hwk]
            clear hwk
            go_wp2_with fail
            go_ret
            exact ⟨ret_int B.out.symm, HG2.out⟩
        · rw [Bool.not_eq_true] at hnm
          have B : Hid (chkT ts = 1) := Lib.hid (by rw [CR.out, if_pos hnm])
          rw [hnm]
          clear hnm
          go_wp2_with fail
          go_ret
          exact ⟨ret_int B.out.symm, HG1.out⟩
end Go.Proofs.Ytdjhnfopdlgliaa

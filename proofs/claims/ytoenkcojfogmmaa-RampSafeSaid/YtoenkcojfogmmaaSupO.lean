/- The contract of the reference's function Least, as far as the statements need it: rails that meet the draws, or an error. -/
import Derived.Test.YtoenkcojfogmmaaSupN
set_option linter.unusedVariables false
set_option linter.unusedSimpArgs false
namespace Go.Proofs.Ytoenkcojfogmmaa
open Go.RowKit
open Classical

/-- Rails as a value. -/
def VRls (w : World) (v : Value) (r : Rls) : Prop := ∃ a1 a2 c1 c2, v = .agg #[.slice a1 r.on.length c1, .slice a2 r.level.length c2] ∧ SlOf 1 RB w a1 r.on ∧ SlOf 1 RI w a2 r.level ∧ r.on.length ≤ c1 ∧ Fit r.on.length ∧ r.level.length ≤ c2 ∧ Fit r.level.length
theorem VRls.gr {w w' : World} {v : Value} {r : Rls} (h : VRls w v r) (hg : Gr w w') : VRls w' v r := by
  obtain ⟨a1, a2, c1, c2, h1, h2, h3, h4⟩ := h
  exact ⟨a1, a2, c1, c2, h1, h2.giB hg, h3.giI hg, h4⟩
theorem SlOf.keepB {w : World} {ao : Option Addr} {xs : List Bool} {a : Addr} {v v' : Value} (h : SlOf 1 RB w ao xs) (c : w.cell? a = some v) (hv : ∀ x, v ≠ .bool x) : SlOf 1 RB (w.setCell a v') ao xs := fun k hk => by
  obtain ⟨b, o, rfl, q⟩ := h k hk
  refine ⟨b, o, rfl, ?_⟩
  unfold RB at q ⊢
  rw [World.cell?_setCell_other, q]
  intro e
  rw [e, q] at c
  cases c
  exact hv _ rfl
theorem SlOf.keepI {w : World} {ao : Option Addr} {xs : List Int} {a : Addr} {v v' : Value} (h : SlOf 1 RI w ao xs) (c : w.cell? a = some v) (hv : ∀ k x, v ≠ .int k x) : SlOf 1 RI (w.setCell a v') ao xs := fun k hk => by
  obtain ⟨b, o, rfl, q⟩ := h k hk
  refine ⟨b, o, rfl, ?_, q.2⟩
  rw [World.cell?_setCell_other, q.1]
  intro e
  rw [e, q.1] at c
  cases c
  exact hv _ _ rfl
/-- The levels lie in a new block. -/
def LvFresh (w : World) (v : Value) (r : Rls) : Prop := r.level.length = 0 ∨ ∃ a1 n1 c1 B c2, v = .agg #[.slice a1 n1 c1, .slice (some ⟨B, 0, none⟩) r.level.length c2] ∧ w.heap.size ≤ B
def LeastGives (l : List Sup) (d : List Drw) (w : World) (e : Ending) (w' : World) : Prop :=
  ∃ r x v, e = .returned (.tuple #[v, .int .i64 x]) ∧ VRls w' v r ∧ (x = 0 → MeetsAll l r d) ∧ Wide x ∧ Gr w w' ∧ LvFresh w v r
def noRls : Rls := ⟨[], []⟩
theorem noRls_at (w : World) : VRls w (.agg #[.slice none 0 0, .slice none 0 0]) noRls :=
  ⟨none, none, 0, 0, rfl, SlOf.nil _ _ _ _, SlOf.nil _ _ _ _, Nat.le_refl _, by simp [Fit, noRls], Nat.le_refl _, by simp [Fit, noRls]⟩
/-- What the loops keep: levels that are there, and voltages that are no greater than can be. -/
def LvsOk (l : List Sup) (lv : List Int) : Prop := lv.length = l.length ∧ ∀ k (h : k < l.length) (h' : k < lv.length), 0 ≤ lv[k] ∧ lv[k] ≤ (l[k].levels.length : Int) - 1
def NeedOk (l : List Sup) (ls : List Int) : Prop := ls.length = l.length ∧ ∀ k (h : k < ls.length), 0 ≤ ls[k] ∧ ls[k] ≤ 10000
theorem NeedOk.set {l : List Sup} {ls : List Int} (h : NeedOk l ls) (k : Nat) (x : Int) (h0 : 0 ≤ x) (h1 : x ≤ 10000) : NeedOk l (ls.set k x) := by
  refine ⟨by simpa using h.1, fun j hj => ?_⟩
  simp only [List.length_set] at hj
  by_cases e : k = j
  · subst e; rw [List.getElem_set_self]; omega
  · rw [List.getElem_set_ne e]; exact h.2 j hj
theorem LvsOk.set {l : List Sup} {lv : List Int} (h : LvsOk l lv) (k : Nat) (hk : k < l.length) (x : Int) (h0 : 0 ≤ x) (h1 : x ≤ (l[k].levels.length : Int) - 1) : LvsOk l (lv.set k x) := by
  refine ⟨by simpa using h.1, fun j hj hj' => ?_⟩
  simp only [List.length_set] at hj'
  by_cases e : k = j
  · subst e; rw [List.getElem_set_self]; omega
  · rw [List.getElem_set_ne e]; exact h.2 j hj hj'
theorem LvsOk.rls {l : List Sup} {d : List Drw} {lv : List Int} (h : LvsOk l lv) (hc : chk l = 0) : RlsOk l ⟨usedL l d, lv⟩ := ⟨hc, usedL_len l d, h.1, h.2⟩
theorem beg_zero {l : List Sup} {d : List Drw} (h : beg l d = 0) : DrwsOk l d := by
  unfold beg at h
  split at h
  · split at h
    · assumption
    · omega
  · omega
theorem beg_wide (l : List Sup) (d : List Drw) : 0 ≤ beg l d ∧ beg l d ≤ 3 := by
  have := chk_wide l
  unfold beg; split <;> (try split) <;> omega

theorem refVolts_at (l : List Sup) (r : Rls) (ao a1 a2 : Option Addr) (cap c1 c2 n1 n2 : Nat) (k : Nat) (w : World) (e1 : n1 = r.on.length) (e2 : n2 = r.level.length) (h : SlOf 5 RSup w ao l) (hf : l.length ≤ 16) (h2 : SlOf 1 RI w a2 r.level) (hr : RlsOk l r) (hk : k < l.length) :
    Calls Try.prog 60 #[.slice ao l.length cap, .agg #[.slice a1 n1 c1, .slice a2 n2 c2], .int .i64 k] w (Grows w (.int .i64 (vlt l r k))) := by
  subst e1 e2; exact refVolts_any l r ao a1 a2 cap c1 c2 k w h hf h2 hr hk
theorem refMeets1_at (l : List Sup) (r : Rls) (d : List Drw) (ao a1 a2 a3 : Option Addr) (cap c1 c2 c3 n1 n2 : Nat) (w : World) (e1 : n1 = r.on.length) (e2 : n2 = r.level.length) (h : SlOf 5 RSup w ao l) (h1 : SlOf 1 RB w a1 r.on) (h2 : SlOf 1 RI w a2 r.level) (h3 : SlOf 4 RDrw w a3 d) (hr : RlsOk l r) (hd : DrwsOk l d) :
    Calls Try.prog 47 #[.slice ao l.length cap, .agg #[.slice a1 n1 c1, .slice a2 n2 c2], .slice a3 d.length c3] w (Grows w (.bool (decide (MeetsP l r d)))) := by
  subst e1 e2; exact refMeets1_any l r d ao a1 a2 a3 cap c1 c2 c3 w h h1 h2 h3 hr hd
theorem LvsOk.wide {l : List Sup} {lv : List Int} (h : LvsOk l lv) (h16 : ∀ k (hk : k < l.length), l[k].levels.length ≤ 16) (k : Nat) (hk : k < lv.length) : Wide lv[k] := by
  have h1 := h.1
  have := h.2 k (by omega) hk
  have := h16 k (by omega)
  unfold Wide; omega

set_option maxRecDepth 100000 in
set_option maxHeartbeats 4000000 in
theorem refLeast_any (l : List Sup) (d : List Drw) (ao a3 : Option Addr) (cap c3 : Nat) (w : World) (h : SlOf 5 RSup w ao l) (hf : Fit l.length) (h3 : SlOf 4 RDrw w a3 d) (f3 : Fit d.length) :
    Calls Try.prog 35 #[.slice ao l.length cap, .slice a3 d.length c3] w (LeastGives l d w) := by
  have H := Lib.hid h
  have H3 := Lib.hid h3
  have bw := beg_wide l d
  clear h h3
  by_cases g : beg l d = 0
  · have hd := beg_zero g
    have hz := chk_zero hd.1
    have hf' : l.length ≤ 16 := by
      have := hz.1
      simp only [Big, not_or] at this
      omega
    have hlv16 : ∀ k (hk : k < l.length), l[k].levels.length ≤ 16 := fun k hk => by
      have := hz.1
      simp only [Big, not_or] at this
      rcases Nat.lt_or_ge 16 l[k].levels.length with q | q
      · exact absurd ⟨k, hk, q⟩ this.2
      · exact q
    have H16 := Lib.hid hlv16
    have OK := Lib.hid hz.2
    have HD := Lib.hid hd
    have f32 := hd.2.1
    have HF := Lib.hid hf
    clear hd hz hlv16 hf
    have hmk := run_make_row' (P := Try.prog) 22 3 (.int .i64 0) 8 Try.underlying22 infoInt rfl .i64 .i64 l.length (by omega) (by omega)
    go_enter Try.func35, Try.ntmps35
    go_wp2_with fail
    refine (refBegin_any l d ao a3 cap c3 _ (sups_gr H.out ((Gr.refl _).alloc _)) HF.out (drws_gr H3.out ((Gr.refl _).alloc _)) f3).mono ?_
    rw [g]
    rintro e w' ⟨rfl, O1, d1, rfl⟩
    go_wp2_with fail
    refine (refUsed_any l d ao a3 cap c3 _ (sups_gr H.out (((Gr.refl _).alloc _).xt _ _)) hf' OK.out (drws_gr H3.out (((Gr.refl _).alloc _).xt _ _)) f32).mono ?_
    rintro e w' ⟨au, cu, rfl, cu1, cu2, hu, O2, d2, rfl⟩
    have HU := Lib.hid hu
    have CU := Lib.hid cu2
    rw [usedL_len] at cu1
    clear hu cu2
    rw [usedL_len]
    go_wp2_with fail
    obtain ⟨W0, hW0⟩ : ∃ W0 : World, xt (w.alloc (.cells #[.slice none 0 0, .slice none 0 0] 31)) (O1 ++ O2) d2 = W0 := ⟨_, rfl⟩
    have hBL : w.heap.size + 1 + (O1.size + O2.size) = W0.heap.size := by rw [← hW0]; simp
    have hU0 : SlOf 1 RB W0 au (usedL l d) := by rw [← hW0]; have := HU.out; rwa [xt_xt] at this
    have hG0 : Gr w W0 := by rw [← hW0]; exact ((Gr.refl _).alloc _).xt _ _
    have hR4 : Row W0 w.heap.size 31 [.slice none 0 0, .slice none 0 0] := by rw [← hW0]; exact (Row.new w #[.slice none 0 0, .slice none 0 0] 31).xt _ _
    rw [hW0, hBL]
    have HU0 := Lib.hid hU0
    have HG0 := Lib.hid hG0
    have R4 := Lib.hid hR4
    have n4 : w.heap.size < W0.heap.size := hR4.has
    clear hW0 hBL hU0 hG0 hR4 HU hmk
    obtain ⟨W1, hW1⟩ : ∃ W1 : World, ((W0.alloc (.cells (madeCells #[.int .i64 0] l.length) 3)).alloc (.cells #[.slice au l.length cu, .slice (some ⟨W0.heap.size, 0, none⟩) l.length l.length] 31)).alloc (.cells (madeCells #[.int .i64 0] l.length) 3) = W1 := ⟨_, rfl⟩
    have g1 : Gr W0 W1 := by rw [← hW1]; exact (((Gr.refl _).alloc _).alloc _).alloc _
    have rL : Row W1 W0.heap.size 3 (nums (List.replicate l.length 0)) := by rw [← hW1]; exact (row_start W0 l.length).gr (((Gr.refl _).alloc _).alloc _)
    have rR : Row W1 (W0.heap.size + 1) 31 [.slice au l.length cu, .slice (some ⟨W0.heap.size, 0, none⟩) l.length l.length] := by
      rw [← hW1]
      have := Row.new (W0.alloc (.cells (madeCells #[.int .i64 0] l.length) 3)) #[.slice au l.length cu, .slice (some ⟨W0.heap.size, 0, none⟩) l.length l.length] 31
      simp only [World.size_alloc] at this
      exact this.gr ((Gr.refl _).alloc _)
    have rS : Row W1 (W0.heap.size + 1 + 1) 3 (nums (List.replicate l.length 0)) := by
      rw [← hW1]
      have := row_start ((W0.alloc (.cells (madeCells #[.int .i64 0] l.length) 3)).alloc (.cells #[.slice au l.length cu, .slice (some ⟨W0.heap.size, 0, none⟩) l.length l.length] 31)) l.length
      simp only [World.size_alloc] at this
      exact this
    have lv0 : LvsOk l (List.replicate l.length 0) := ⟨by simp, fun k hk _ => by
      obtain ⟨_, q⟩ := OK.out k hk
      have := q.1.2.2.1
      simp; omega⟩
    have ls0 : NeedOk l (List.replicate l.length 0) := ⟨by simp, fun k _ => by simp⟩
    rw [hW1]
    clear hW1
    go_loopw [34] (fun i wr => ∃ m : Nat, m ≤ d.length ∧ i = .int .i64 m ∧ Gr W0 wr ∧ Row wr W0.heap.size 3 (nums (List.replicate l.length 0)) ∧ Row wr (W0.heap.size + 1) 31 [.slice au l.length cu, .slice (some ⟨W0.heap.size, 0, none⟩) l.length l.length] ∧ ∃ ls, Row wr (W0.heap.size + 1 + 1) 3 (nums ls) ∧ NeedOk l ls) (fun i _ => d.length - (intOf i).toNat)
    case atStart => exact ⟨0, Nat.zero_le _, rfl, g1, rL, rR, _, rS, ls0⟩
    case round =>
      clear g1 rL rR rS ls0
      obtain ⟨m, hm, rfl, hg, rL, rR, ls, rS, hls⟩ := hrel
      have G0 := Lib.hid hg
      have RL := Lib.hid rL
      have RR := Lib.hid rR
      have RS := Lib.hid rS
      have LS := Lib.hid hls
      have GG : Hid (Gr w wr) := Lib.hid (HG0.out.trans hg)
      have LV0 := Lib.hid lv0
      clear hg rL rR rS hls lv0
      by_cases hlt : m < d.length
      · obtain ⟨b, o, rfl, ⟨t0, _⟩, ⟨t1, t1w, t1x⟩, ⟨t2, _⟩, ⟨t3, _⟩⟩ := drws_gr H3.out GG.out m hlt
        have hdo := HD.out.2.2 m hlt
        unfold DrwOk at hdo
        obtain ⟨sn, hsn⟩ := Int.eq_ofNat_of_zero_le hdo.1
        rw [hsn] at t0
        have hsl : sn < l.length := by omega
        have lo0 : 0 ≤ d[m].low := by omega
        have lo1 : d[m].low ≤ 5000 := by omega
        clear hsn hdo
        have hsv : sn < ls.length := by have := LS.out.1; omega
        have lsb := LS.out.2 sn hsv
        have s0 := RS.out.iat sn hsv
        have s1 := RS.out.free sn
        have s2 := RS.out.has
        have gl : (sn : Int) < l.length := by omega
        have ls1 := lsb.1
        have ls2 := lsb.2
        clear lsb
        go_wp2_with fail
        go_region
        all_goals go_wp2_with fail
        all_goals go_roundw
        case rel =>
          refine ⟨m + 1, by omega, by go_num, ?_, ?_, ?_, ls.set sn (if ls[sn] < d[m].low then d[m].low else ls[sn]), ?_, ?_⟩
          · repeat (first | with_reducible exact G0.out | with_reducible refine Gr.setc (by omega) ?_ | with_reducible refine Gr.alloc _ ?_ | with_reducible refine Gr.xt _ _ ?_ | with_reducible refine Gr.drew ?_)
          · repeat (first | with_reducible exact RL.out | with_reducible refine Row.alloc _ ?_ | with_reducible refine Row.drew ?_ | with_reducible refine Row.xt _ _ ?_ | with_reducible refine Row.oth ?_ (by omega))
          · repeat (first | with_reducible exact RR.out | with_reducible refine Row.alloc _ ?_ | with_reducible refine Row.drew ?_ | with_reducible refine Row.xt _ _ ?_ | with_reducible refine Row.oth ?_ (by omega))
          · repeat (first | with_reducible exact RS.out.iset sn _ | with_reducible refine Row.alloc _ ?_ | with_reducible refine Row.drew ?_ | with_reducible refine Row.xt _ _ ?_ | with_reducible refine Row.oth ?_ (by omega))
          · exact LS.out.set sn _ (by split <;> omega) (by split <;> omega)
        case measure => simp [intOf]; omega
      · obtain ⟨w1, rfl⟩ : ∃ w1 : World, w1 = wr := ⟨_, rfl⟩
        go_wp2_with fail
        go_loopw [12] (fun i wr => ∃ n : Nat, n ≤ l.length ∧ i = .int .i64 ((n : Int) - 1) ∧ Gr W0 wr ∧ Row wr (W0.heap.size + 1) 31 [.slice au l.length cu, .slice (some ⟨W0.heap.size, 0, none⟩) l.length l.length] ∧ ∃ lv ls, Row wr W0.heap.size 3 (nums lv) ∧ Row wr (W0.heap.size + 1 + 1) 3 (nums ls) ∧ LvsOk l lv ∧ NeedOk l ls) (fun i _ => (intOf i + 1).toNat)
        case atStart => exact ⟨l.length, Nat.le_refl _, rfl, G0.out, RR.out, _, ls, RL.out, RS.out, LV0.out, LS.out⟩
        case round =>
          clear G0 RL RR RS LS GG LV0
          obtain ⟨n, hn, rfl, hg, rR, lv, ls, rL, rS, hlv, hls⟩ := hrel
          have G0 := Lib.hid hg
          have RL := Lib.hid rL
          have RR := Lib.hid rR
          have RS := Lib.hid rS
          have LS := Lib.hid hls
          have LV := Lib.hid hlv
          have GG : Hid (Gr w wr) := Lib.hid (HG0.out.trans hg)
          have x1 := rR.cell 1 (by simp)
          have x0 := rR.cell 0 (by simp)
          simp only [List.getElem_cons_succ, List.getElem_cons_zero] at x0 x1
          have hhR := rR.has
          have hhL := rL.has
          have hhS := rS.has
          clear hg rL rR rS hls hlv
          cases n with
          | zero =>
            have e0 := (R4.out.gr G0.out).cell 0 (by simp)
            have e1 := (R4.out.gr G0.out).cell 1 (by simp)
            have e2 := (R4.out.gr G0.out).free 0
            have e3 := (R4.out.gr G0.out).free 1
            have e4 := (R4.out.gr G0.out).has
            simp only [List.getElem_cons_succ, List.getElem_cons_zero] at e0 e1
            have RK := Lib.hid (LV.out.rls (d := d) HD.out.1)
            have hll := LV.out.1
            go_wp2_with fail
            refine (refMeets1_at l ⟨usedL l d, lv⟩ d _ _ _ _ _ _ _ _ _ _ _ (usedL_len l d).symm hll.symm (sups_gr H.out GG.out) (HU0.out.giB G0.out) (RL.out.slI (LV.out.wide H16.out)) (drws_gr H3.out GG.out) RK.out HD.out).mono ?_
            rintro e w' ⟨rfl, O7, d7, rfl⟩
            by_cases hm : MeetsP l ⟨usedL l d, lv⟩ d
            · have HM := Lib.hid hm
              rw [decide_eq_true hm]
              clear hm
              go_wp2_with fail
              refine bodyPost_ret (v := .tuple #[.agg #[.slice au l.length cu, .slice (some ⟨W0.heap.size, 0, none⟩) l.length l.length], .int .i64 0]) ?_ rfl ?_
              · simp [results, Try.results35, go_sem, e0, e1, e4]
              · have q1 := ((HU0.out.giB G0.out).keepB (v' := .slice au l.length cu) e0 (by intro x h; cases h)).keepB (v' := .slice (some ⟨W0.heap.size, 0, none⟩) l.length l.length) (a := ⟨w.heap.size, 1, none⟩) (v := .slice none 0 0) (by rw [World.cell?_setCell_other]; exact e1; simp) (by intro x h; cases h)
                have q2 := ((RL.out.slI (LV.out.wide H16.out)).keepI (v' := .slice au l.length cu) e0 (by intro k x h; cases h)).keepI (v' := .slice (some ⟨W0.heap.size, 0, none⟩) l.length l.length) (a := ⟨w.heap.size, 1, none⟩) (v := .slice none 0 0) (by rw [World.cell?_setCell_other]; exact e1; simp) (by intro k x h; cases h)
                exact ⟨⟨usedL l d, lv⟩, _, _, rfl, ⟨au, some ⟨W0.heap.size, 0, none⟩, cu, l.length, by simp only [usedL_len, hll], q1.giB ((Gr.refl _).xt _ _), q2.giI ((Gr.refl _).xt _ _), by rw [usedL_len]; exact cu1, CU.out, by show lv.length ≤ l.length; omega, (by have := HF.out; unfold Fit at *; show lv.length ≤ _; omega)⟩, fun _ => ⟨HD.out, RK.out, HM.out⟩, by unfold Wide; omega, (by repeat (first | with_reducible exact GG.out | with_reducible refine Gr.setc (by omega) ?_ | with_reducible refine Gr.alloc _ ?_ | with_reducible refine Gr.xt _ _ ?_)), .inr ⟨au, l.length, cu, W0.heap.size, l.length, by show _ = Value.agg #[_, .slice _ lv.length _]; rw [hll], by omega⟩⟩
            · rw [decide_eq_false hm]
              clear hm
              go_wp2_with fail
              refine bodyPost_ret (v := .tuple #[.agg #[.slice none 0 0, .slice none 0 0], .int .i64 9]) ?_ rfl ?_
              · simp [results, Try.results35, go_sem, e0, e1, e4]
              · exact ⟨noRls, _, _, rfl, noRls_at _, fun q => by omega, by unfold Wide; omega, (by repeat (first | with_reducible exact GG.out | with_reducible refine Gr.setc (by omega) ?_ | with_reducible refine Gr.alloc _ ?_ | with_reducible refine Gr.xt _ _ ?_)), .inl rfl⟩
          | succ i =>
            rw [show ((i + 1 : Nat) : Int) - 1 = (i : Int) by omega]
            have hi0 : (0 : Int) ≤ i := by omega
            have hib : (i : Int) < l.length := by omega
            obtain ⟨bu, ou, rfl, u1⟩ := (HU0.out.giB G0.out).one i (by rw [usedL_len]; exact hn)
            rw [usedL_at] at u1
            unfold RB at u1
            obtain ⟨b, o, rfl, hsall⟩ := H.out.all (by omega)
            have HS := Lib.hid (hsall i hn)
            clear hsall
            obtain ⟨⟨c0, c0w, c0x⟩, ⟨al, cl, q1, q1l, q1f, cL⟩, ⟨c2, _⟩, ⟨c3, _⟩, c4⟩ := RSup.mono _ _ _ _ _ GG.out HS.out
            unfold RB at c4
            have CL := Lib.hid cL
            have hvl : i < lv.length := by have := LV.out.1; omega
            have hsl : i < ls.length := by have := LS.out.1; omega
            have s0 := RS.out.iat i hsl
            have l0 := RL.out.iat i hvl
            have l1 := RL.out.free i
            have h16 := H16.out i hn
            have hh1 := has_of_cell c0
            have hh2 := has_of_cell u1
            clear cL
            obtain ⟨uu, huu⟩ : ∃ uu : Bool, decide (Used l d i) = uu := ⟨_, rfl⟩
            rw [huu] at u1
            clear huu
            cases uu with
            | false =>
              go_wp2_with fail
              go_roundw
              case rel => exact ⟨i, by omega, by go_num, G0.out, RR.out, lv, ls, RL.out, RS.out, LV.out, LS.out⟩
              case measure => simp [intOf]
            | true =>
              go_wp2_with fail
              refine wp_region_grows_tail 13 (by kernel_rfl) (by kernel_rfl) ?_
              simp only [List.take_succ_cons, List.take_zero, List.drop_succ_cons, List.drop_zero]
              repeat (go_big_quiet_step ((go_at_call 59; exact calls_grows (refLevel_any l[i] _ _ _ _ (CL.out.giI ((Gr.refl _).xt _ _)) h16))))
              refine wpQuiet_nil ?_
              rintro _ ⟨⟨O5, d5⟩, rfl⟩
              have lw := lvI_wide l[i].levels ls[i]
              obtain ⟨kk, hkk⟩ : ∃ kk, lvI l[i].levels ls[i] = kk := ⟨_, rfl⟩
              rw [hkk] at lw ⊢
              have lw0 := lw.1
              have lw1 := lw.2
              clear hkk lw
              have nb : b ≠ W0.heap.size := by have : b < w.heap.size := has_of_cell HS.out.1.1; omega
              have nb' : b ≠ W0.heap.size + 1 + 1 := by have : b < w.heap.size := has_of_cell HS.out.1.1; omega
              by_cases kn : kk < 0
              · have e0 := (R4.out.gr G0.out).cell 0 (by simp)
                have e1 := (R4.out.gr G0.out).cell 1 (by simp)
                have e2 := (R4.out.gr G0.out).free 0
                have e3 := (R4.out.gr G0.out).free 1
                have e4 := (R4.out.gr G0.out).has
                simp only [List.getElem_cons_succ, List.getElem_cons_zero] at e0 e1
                have n4' : w.heap.size ≠ W0.heap.size := by omega
                go_wp2_with fail
                refine bodyPost_ret (v := .tuple #[.agg #[.slice none 0 0, .slice none 0 0], .int .i64 9]) ?_ rfl ?_
                · simp [results, Try.results35, go_sem, e0, e1, e4]
                · exact ⟨noRls, _, _, rfl, noRls_at _, fun q => by omega, by unfold Wide; omega, (by repeat (first | with_reducible exact GG.out | with_reducible refine Gr.setc (by omega) ?_ | with_reducible refine Gr.alloc _ ?_ | with_reducible refine Gr.xt _ _ ?_)), .inl rfl⟩
              · have kn' : 0 ≤ kk := by omega
                have LV2 := Lib.hid (LV.out.set i hn kk kn' lw1)
                have pr := OK.out i hn
                obtain ⟨_, ⟨pr1, pr2, _, pr4, pr5, _, _, _⟩, _⟩ := pr
                clear kn
                by_cases hp : 0 ≤ l[i].parent
                · obtain ⟨p, hpp⟩ := Int.eq_ofNat_of_zero_le hp
                  rw [hpp] at c0 pr2
                  clear hpp hp c0w c0x pr1
                  have hpl : p < ls.length := by omega
                  have hpi : p ≠ i := by omega
                  have p0 := RS.out.iat p hpl
                  have p1 := RS.out.free p
                  have lp := LS.out.2 p hpl
                  have gp : (p : Int) < l.length := by omega
                  have vw := vlt_wide (LV2.out.rls (d := d) HD.out.1) i hn
                  have SL2 := Lib.hid ((RL.out.iset i kk).slI (LV2.out.wide H16.out))
                  go_wp2_with fail
                  refine wp_region_grows_tailx 18 (by kernel_rfl) (by kernel_rfl) ?_
                  simp only [List.take_succ_cons, List.take_zero, List.drop_succ_cons, List.drop_zero]
                  repeat (go_big_quiet_step ((go_at_call 60; exact calls_grows (refVolts_at l ⟨usedL l d, lv.set i kk⟩ _ _ _ _ _ _ _ _ _ _ (usedL_len l d).symm LV2.out.1.symm (sups_gr H.out (by repeat (first | with_reducible exact GG.out | with_reducible refine Gr.setc (by omega) ?_ | with_reducible refine Gr.alloc _ ?_ | with_reducible refine Gr.xt _ _ ?_))) hf' (SL2.out.giI ((Gr.refl _).xt _ _)) (LV2.out.rls HD.out.1) (by omega)))))
                  refine wpQuiet_nil ?_
                  rintro _ ⟨⟨O6, d6⟩, rfl⟩
                  go_wp2_with fail
                  go_roundw
                  case rel => exact ⟨i, by omega, by go_num, (by repeat (first | with_reducible exact G0.out | with_reducible refine Gr.setc (by omega) ?_ | with_reducible refine Gr.alloc _ ?_ | with_reducible refine Gr.xt _ _ ?_)), (by repeat (first | with_reducible exact RR.out | with_reducible refine Row.alloc _ ?_ | with_reducible refine Row.drew ?_ | with_reducible refine Row.xt _ _ ?_ | with_reducible refine Row.oth ?_ (by omega))), lv.set i kk, ls.set p (if ls[p] < vlt l ⟨usedL l d, lv.set i kk⟩ i + l[i].dropout then vlt l ⟨usedL l d, lv.set i kk⟩ i + l[i].dropout else ls[p]), (by repeat (first | with_reducible exact RL.out.iset i kk | with_reducible refine Row.alloc _ ?_ | with_reducible refine Row.drew ?_ | with_reducible refine Row.xt _ _ ?_ | with_reducible refine Row.oth ?_ (by omega))), (by repeat (first | with_reducible exact RS.out | with_reducible refine Row.iset ?_ _ _ | with_reducible refine Row.alloc _ ?_ | with_reducible refine Row.drew ?_ | with_reducible refine Row.xt _ _ ?_ | with_reducible refine Row.oth ?_ (by omega))), LV2.out, LS.out.set p _ (by split <;> omega) (by split <;> omega)⟩
                  case measure => simp [intOf]
                · have hp' : l[i].parent < 0 := by omega
                  clear hp
                  go_wp2_with fail
                  go_roundw
                  case rel => exact ⟨i, by omega, by go_num, (by repeat (first | with_reducible exact G0.out | with_reducible refine Gr.setc (by omega) ?_ | with_reducible refine Gr.alloc _ ?_ | with_reducible refine Gr.xt _ _ ?_)), (by repeat (first | with_reducible exact RR.out | with_reducible refine Row.alloc _ ?_ | with_reducible refine Row.drew ?_ | with_reducible refine Row.xt _ _ ?_ | with_reducible refine Row.oth ?_ (by omega))), lv.set i kk, ls, (by repeat (first | with_reducible exact RL.out.iset i kk | with_reducible refine Row.alloc _ ?_ | with_reducible refine Row.drew ?_ | with_reducible refine Row.xt _ _ ?_ | with_reducible refine Row.oth ?_ (by omega))), (by repeat (first | with_reducible exact RS.out | with_reducible refine Row.alloc _ ?_ | with_reducible refine Row.drew ?_ | with_reducible refine Row.xt _ _ ?_ | with_reducible refine Row.oth ?_ (by omega))), LV2.out, LS.out⟩
                  case measure => simp [intOf]
  · have gb : (beg l d != 0) = true := by simp [g]
    have G := Lib.hid g
    clear g
    go_enter Try.func35, Try.ntmps35
    go_wp2_with fail
    refine (refBegin_any l d ao a3 cap c3 _ (sups_gr H.out ((Gr.refl _).alloc _)) hf (drws_gr H3.out ((Gr.refl _).alloc _)) f3).mono ?_
    rintro e w' ⟨rfl, O1, d1, rfl⟩
    go_wp2_with fail
    refine bodyPost_ret (v := .tuple #[.agg #[.slice none 0 0, .slice none 0 0], .int .i64 (beg l d)]) ?_ rfl ?_
    · simp [results, Try.results35, go_sem]
    · exact ⟨noRls, _, _, rfl, noRls_at _, fun q => absurd q G.out, by unfold Wide; omega, by repeat (first | with_reducible exact Gr.refl _ | with_reducible refine Gr.alloc _ ?_ | with_reducible refine Gr.xt _ _ ?_), .inl rfl⟩
end Go.Proofs.Ytoenkcojfogmmaa

/- Lemmas and contracts for the proof of RampAnswers (several texts in one, printed by wip/tools/pack.py): ZSupN ZSupO ZPrgA ZPrgB ZPrgC ZPrgD ZTailIn ZFind ZInv ZNewTape. -/
import Derived.Test.YtoenkcojfogmmaaRm8pb
import Derived.Test.YtoenkcojfogmmaaRm8pa
import Derived.OrdersIn
import Derived.TacticsIn
import Derived.RangeFuncCalls
import Derived.OpenShut
set_option maxRecDepth 100000
set_option maxHeartbeats 16000000
set_option linter.unusedVariables false
set_option linter.unusedSimpArgs false
namespace Go.Proofs.Ytoenkcojfogmmaa
open Go.RowKit
open Classical
noncomputable def beg (l : List Sup) (d : List Drw) : Int := if chk l = 0 then (if DrwsOk l d then 0 else 1) else chk l
theorem refBegin_anyZ (l : List Sup) (d : List Drw) (ao a1 : Option Addr) (cap c1 : Nat) (w : World) (h : SlOf 5 RSup w ao l) (hf : Fit l.length) (h1 : SlOf 4 RDrw w a1 d) (f1 : Fit d.length) :
    Calls Try.prog 57 #[.slice ao l.length cap, .slice a1 d.length c1] w (Grows w (.int .i64 (beg l d))) := by
  have H := Lib.hid h
  have H1 := Lib.hid h1
  have cw := chk_wide l
  clear h h1
  by_cases g1 : chk l = 0
  · by_cases g2 : DrwsOk l d
    all_goals
      have e : beg l d = (if DrwsOk l d then 0 else 1) := by simp [beg, g1]
      rw [e]
      first | (have g2b : decide (DrwsOk l d) = true := by simp [g2]) | (have g2b : decide (DrwsOk l d) = false := by simp [g2])
      first | rw [if_pos g2] | rw [if_neg g2]
      clear g2 e
      go_enter Try.func57, Try.ntmps57
      go_wp2_with fail
      refine (refCheck_anyZ l ao cap _ H.out hf).mono ?_
      rw [g1]
      rintro e w' ⟨rfl, O1, d1, rfl⟩
      go_wp2_with fail
      refine (refDraws_any l d ao a1 cap c1 _ (sups_gr H.out ((Gr.refl _).xt _ _)) hf (drws_gr H1.out ((Gr.refl _).xt _ _)) f1).mono ?_
      rw [g2b]
      rintro e w' ⟨rfl, O2, d2, rfl⟩
      go_wp2_with fail
      go_ret
      exact ⟨rfl, (Gr.refl _).xt _ _⟩
  · have e : beg l d = chk l := by simp [beg, g1]
    rw [e]
    have g1b : (chk l != 0) = true := by simp [g1]
    clear g1 e
    go_enter Try.func57, Try.ntmps57
    go_wp2_with fail
    refine (refCheck_anyZ l ao cap _ H.out hf).mono ?_
    rintro e w' ⟨rfl, O1, d1, rfl⟩
    go_wp2_with fail
    go_ret
    exact ⟨rfl, (Gr.refl _).xt _ _⟩
def lvF (xs : List Int) (v : Int) : Nat → Nat → Int
  | _, 0 => -1
  | n, k + 1 => if v ≤ xs.getD n 0 then n else lvF xs v (n + 1) k
def lvI (xs : List Int) (v : Int) : Int := lvF xs v 0 xs.length
theorem lvF_wide (xs : List Int) (v : Int) (k : Nat) : ∀ n, -1 ≤ lvF xs v n k ∧ lvF xs v n k ≤ (n + k : Nat) - 1 := by
  induction k with
  | zero => intro n; simp only [lvF]; omega
  | succ k ih => intro n; simp only [lvF]; split <;> (have := ih (n + 1); omega)
theorem lvI_wide (xs : List Int) (v : Int) : -1 ≤ lvI xs v ∧ lvI xs v ≤ (xs.length : Int) - 1 := by
  have := lvF_wide xs v xs.length 0; unfold lvI; omega
theorem refLevel_any (s : Sup) (v : Int) (al : Option Addr) (cl : Nat) (w : World) (h : SlOf 1 RI w al s.levels) (hf : s.levels.length ≤ 16) :
    Calls Try.prog 59 #[.agg #[.int .i64 s.parent, .slice al s.levels.length cl, .int .i64 s.dropout, .int .i64 s.capacity, .bool s.always], .int .i64 v] w (Grows w (.int .i64 (lvI s.levels v))) := by
  have H := Lib.hid h
  clear h
  go_enter Try.func59, Try.ntmps59
  go_wp2_with fail
  go_loop [10] (fun i => ∃ k : Nat, k ≤ s.levels.length ∧ i = .int .i64 k ∧ Hid (lvI s.levels v = lvF s.levels v k (s.levels.length - k))) (fun i => s.levels.length - (intOf i).toNat)
  case atStart => exact ⟨0, Nat.zero_le _, rfl, Lib.hid rfl⟩
  case round =>
    obtain ⟨k, hk, rfl, hl⟩ := hrel
    by_cases hlt : k < s.levels.length
    · obtain ⟨b, o, rfl, ⟨c, _⟩⟩ := H.out.one k hlt
      have ch := has_of_cell c
      have hx : s.levels.getD k 0 = s.levels[k] := by simp [List.getD_eq_getElem?_getD, hlt]
      have hst : lvF s.levels v k (s.levels.length - k) = if v ≤ s.levels[k] then (k : Int) else lvF s.levels v (k + 1) (s.levels.length - (k + 1)) := by
        rw [show s.levels.length - k = (s.levels.length - (k + 1)) + 1 by omega]
        simp only [lvF, hx]
      have HST := Lib.hid hst
      clear hx hst
      by_cases hv : v ≤ s.levels[k]
      · have e : Hid (lvI s.levels v = k) := Lib.hid (by rw [hl.out, HST.out, if_pos hv])
        go_wp2_with fail
        go_ret
        exact ⟨ret_int e.out.symm, (Gr.refl _).alloc _⟩
      · have e : Hid (lvI s.levels v = lvF s.levels v (k + 1) (s.levels.length - (k + 1))) := Lib.hid (by rw [hl.out, HST.out, if_neg hv])
        go_wp2_with fail
        go_round
        case rel => exact ⟨k + 1, by omega, by go_num, e⟩
        case measure => simp [intOf]; omega
    · go_wp2_with fail
      go_ret
      refine ⟨ret_int ?_, (Gr.refl _).alloc _⟩
      rw [hl.out, show s.levels.length - k = 0 by omega]; rfl
def VRls (w : World) (v : Value) (r : Rls) : Prop := ∃ a1 a2 c1 c2, v = .agg #[.slice a1 r.on.length c1, .slice a2 r.level.length c2] ∧ SlOf 1 RB w a1 r.on ∧ SlOf 1 RI w a2 r.level ∧ r.on.length ≤ c1 ∧ Fit r.on.length ∧ r.level.length ≤ c2 ∧ Fit r.level.length
def LvFresh (w : World) (v : Value) (r : Rls) : Prop := r.level.length = 0 ∨ ∃ a1 n1 c1 B c2, v = .agg #[.slice a1 n1 c1, .slice (some ⟨B, 0, none⟩) r.level.length c2] ∧ w.heap.size ≤ B
def LeastGives (l : List Sup) (d : List Drw) (w : World) (e : Ending) (w' : World) : Prop :=
  ∃ r x v, e = .returned (.tuple #[v, .int .i64 x]) ∧ VRls w' v r ∧ (x = 0 → MeetsAll l r d) ∧ Wide x ∧ Gr w w' ∧ LvFresh w v r
def noRls : Rls := ⟨[], []⟩
theorem noRls_at (w : World) : VRls w (.agg #[.slice none 0 0, .slice none 0 0]) noRls :=
  ⟨none, none, 0, 0, rfl, SlOf.nil _ _ _ _, SlOf.nil _ _ _ _, Nat.le_refl _, by simp [Fit, noRls], Nat.le_refl _, by simp [Fit, noRls]⟩
def LvsOk (l : List Sup) (lv : List Int) : Prop := lv.length = l.length ∧ ∀ k (h : k < l.length) (h' : k < lv.length), 0 ≤ lv[k] ∧ lv[k] ≤ (l[k].levels.length : Int) - 1
def NeedOk (l : List Sup) (ls : List Int) : Prop := ls.length = l.length ∧ ∀ k (h : k < ls.length), 0 ≤ ls[k] ∧ ls[k] ≤ 10000
theorem NeedOk.set {l : List Sup} {ls : List Int} (h : NeedOk l ls) (k : Nat) (x : Int) (h0 : 0 ≤ x) (h1 : x ≤ 10000) : NeedOk l (ls.set k x) := by
  refine ⟨by simpa using h.1, fun j hj => ?_⟩
  simp only [List.length_set] at hj
  by_cases e : k = j
  · subst e; rw [List.getElem_set_self]; omega
  · rw [List.getElem_set_ne e]; exact h.2 j hj
theorem LvsOk.set {l : List Sup} {lv : List Int} (h : LvsOk l lv) (k : Nat) (hk : k < l.length) (x : Int) (h0 : 0 ≤ x) (h1 : x ≤ (l[k].levels.length : Int) - 1) : LvsOk l (lv.set k x) := by
  refine ⟨by simpa using h.1, fun j hj hj' => ?_⟩
  simp only [List.length_set] at hj'
  by_cases e : k = j
  · subst e; rw [List.getElem_set_self]; omega
  · rw [List.getElem_set_ne e]; exact h.2 j hj hj'
theorem LvsOk.rls {l : List Sup} {d : List Drw} {lv : List Int} (h : LvsOk l lv) (hc : chk l = 0) : RlsOk l ⟨usedL l d, lv⟩ := ⟨hc, usedL_len l d, h.1, h.2⟩
theorem beg_zero {l : List Sup} {d : List Drw} (h : beg l d = 0) : DrwsOk l d := by
  unfold beg at h
  split at h
  · split at h
    · assumption
    · omega
  · omega
theorem beg_wide (l : List Sup) (d : List Drw) : 0 ≤ beg l d ∧ beg l d ≤ 3 := by
  have := chk_wide l
  unfold beg; split <;> (try split) <;> omega
theorem refVolts_at (l : List Sup) (r : Rls) (ao a1 a2 : Option Addr) (cap c1 c2 n1 n2 : Nat) (k : Nat) (w : World) (e1 : n1 = r.on.length) (e2 : n2 = r.level.length) (h : SlOf 5 RSup w ao l) (hf : l.length ≤ 16) (h2 : SlOf 1 RI w a2 r.level) (hr : RlsOk l r) (hk : k < l.length) :
    Calls Try.prog 60 #[.slice ao l.length cap, .agg #[.slice a1 n1 c1, .slice a2 n2 c2], .int .i64 k] w (Grows w (.int .i64 (vlt l r k))) := by
  subst e1 e2; exact refVolts_any l r ao a1 a2 cap c1 c2 k w h hf h2 hr hk
theorem refMeets1_at (l : List Sup) (r : Rls) (d : List Drw) (ao a1 a2 a3 : Option Addr) (cap c1 c2 c3 n1 n2 : Nat) (w : World) (e1 : n1 = r.on.length) (e2 : n2 = r.level.length) (h : SlOf 5 RSup w ao l) (h1 : SlOf 1 RB w a1 r.on) (h2 : SlOf 1 RI w a2 r.level) (h3 : SlOf 4 RDrw w a3 d) (hr : RlsOk l r) (hd : DrwsOk l d) :
    Calls Try.prog 47 #[.slice ao l.length cap, .agg #[.slice a1 n1 c1, .slice a2 n2 c2], .slice a3 d.length c3] w (Grows w (.bool (decide (MeetsP l r d)))) := by
  subst e1 e2; exact refMeets1_any l r d ao a1 a2 a3 cap c1 c2 c3 w h h1 h2 h3 hr hd
theorem LvsOk.wide {l : List Sup} {lv : List Int} (h : LvsOk l lv) (h16 : ∀ k (hk : k < l.length), l[k].levels.length ≤ 16) (k : Nat) (hk : k < lv.length) : Wide lv[k] := by
  have h1 := h.1
  have := h.2 k (by omega) hk
  have := h16 k (by omega)
  unfold Wide; omega
theorem refLeast_any (l : List Sup) (d : List Drw) (ao a3 : Option Addr) (cap c3 : Nat) (w : World) (h : SlOf 5 RSup w ao l) (hf : Fit l.length) (h3 : SlOf 4 RDrw w a3 d) (f3 : Fit d.length) :
    Calls Try.prog 35 #[.slice ao l.length cap, .slice a3 d.length c3] w (LeastGives l d w) := by
  have H := Lib.hid h
  have H3 := Lib.hid h3
  have bw := beg_wide l d
  clear h h3
  by_cases g : beg l d = 0
  · have hd := beg_zero g
    have hz := chk_zero hd.1
    have hf' : l.length ≤ 16 := by
      have := hz.1
      simp only [BigZ, not_or] at this
      omega
    have hlv16 : ∀ k (hk : k < l.length), l[k].levels.length ≤ 16 := fun k hk => by
      have := hz.1
      simp only [BigZ, not_or] at this
      rcases Nat.lt_or_ge 16 l[k].levels.length with q | q
      · exact absurd ⟨k, hk, q⟩ this.2
      · exact q
    have H16 := Lib.hid hlv16
    have OK := Lib.hid hz.2
    have HD := Lib.hid hd
    have f32 := hd.2.1
    have HF := Lib.hid hf
    clear hd hz hlv16 hf
    have hmk := run_make_row' (P := Try.prog) 22 3 (.int .i64 0) 8 Try.underlying22 infoInt rfl .i64 .i64 l.length (by omega) (by omega)
    go_enter Try.func35, Try.ntmps35
    go_wp2_with fail
    refine (refBegin_anyZ l d ao a3 cap c3 _ (sups_gr H.out ((Gr.refl _).alloc _)) HF.out (drws_gr H3.out ((Gr.refl _).alloc _)) f3).mono ?_
    rw [g]
    rintro e w' ⟨rfl, O1, d1, rfl⟩
    go_wp2_with fail
    refine (refUsed_any l d ao a3 cap c3 _ (sups_gr H.out (((Gr.refl _).alloc _).xt _ _)) hf' OK.out (drws_gr H3.out (((Gr.refl _).alloc _).xt _ _)) f32).mono ?_
    rintro e w' ⟨au, cu, rfl, cu1, cu2, hu, O2, d2, rfl⟩
    have HU := Lib.hid hu
    have CU := Lib.hid cu2
    rw [usedL_len] at cu1
    clear hu cu2
    rw [usedL_len]
    go_wp2_with fail
    obtain ⟨W0, hW0⟩ : ∃ W0 : World, xt (w.alloc (.cells #[.slice none 0 0, .slice none 0 0] 31)) (O1 ++ O2) d2 = W0 := ⟨_, rfl⟩
    have hBL : w.heap.size + 1 + (O1.size + O2.size) = W0.heap.size := by rw [← hW0]; simp
    have hU0 : SlOf 1 RB W0 au (usedL l d) := by rw [← hW0]; have := HU.out; rwa [xt_xt] at this
    have hG0 : Gr w W0 := by rw [← hW0]; exact ((Gr.refl _).alloc _).xt _ _
    have hR4 : Row W0 w.heap.size 31 [.slice none 0 0, .slice none 0 0] := by rw [← hW0]; exact (Row.new w #[.slice none 0 0, .slice none 0 0] 31).xt _ _
    rw [hW0, hBL]
    have HU0 := Lib.hid hU0
    have HG0 := Lib.hid hG0
    have R4 := Lib.hid hR4
    have n4 : w.heap.size < W0.heap.size := hR4.has
    clear hW0 hBL hU0 hG0 hR4 HU hmk
    obtain ⟨W1, hW1⟩ : ∃ W1 : World, ((W0.alloc (.cells (madeCells #[.int .i64 0] l.length) 3)).alloc (.cells #[.slice au l.length cu, .slice (some ⟨W0.heap.size, 0, none⟩) l.length l.length] 31)).alloc (.cells (madeCells #[.int .i64 0] l.length) 3) = W1 := ⟨_, rfl⟩
    have g1 : Gr W0 W1 := by rw [← hW1]; exact (((Gr.refl _).alloc _).alloc _).alloc _
    have rL : Row W1 W0.heap.size 3 (nums (List.replicate l.length 0)) := by rw [← hW1]; exact (row_start W0 l.length).gr (((Gr.refl _).alloc _).alloc _)
    have rR : Row W1 (W0.heap.size + 1) 31 [.slice au l.length cu, .slice (some ⟨W0.heap.size, 0, none⟩) l.length l.length] := by
      rw [← hW1]
      have := Row.new (W0.alloc (.cells (madeCells #[.int .i64 0] l.length) 3)) #[.slice au l.length cu, .slice (some ⟨W0.heap.size, 0, none⟩) l.length l.length] 31
      simp only [World.size_alloc] at this
      exact this.gr ((Gr.refl _).alloc _)
    have rS : Row W1 (W0.heap.size + 1 + 1) 3 (nums (List.replicate l.length 0)) := by
      rw [← hW1]
      have := row_start ((W0.alloc (.cells (madeCells #[.int .i64 0] l.length) 3)).alloc (.cells #[.slice au l.length cu, .slice (some ⟨W0.heap.size, 0, none⟩) l.length l.length] 31)) l.length
      simp only [World.size_alloc] at this
      exact this
    have lv0 : LvsOk l (List.replicate l.length 0) := ⟨by simp, fun k hk _ => by
      obtain ⟨_, q⟩ := OK.out k hk
      have := q.1.2.2.1
      simp; omega⟩
    have ls0 : NeedOk l (List.replicate l.length 0) := ⟨by simp, fun k _ => by simp⟩
    rw [hW1]
    clear hW1
    go_loopw [34] (fun i wr => ∃ m : Nat, m ≤ d.length ∧ i = .int .i64 m ∧ Gr W0 wr ∧ Row wr W0.heap.size 3 (nums (List.replicate l.length 0)) ∧ Row wr (W0.heap.size + 1) 31 [.slice au l.length cu, .slice (some ⟨W0.heap.size, 0, none⟩) l.length l.length] ∧ ∃ ls, Row wr (W0.heap.size + 1 + 1) 3 (nums ls) ∧ NeedOk l ls) (fun i _ => d.length - (intOf i).toNat)
    case atStart => exact ⟨0, Nat.zero_le _, rfl, g1, rL, rR, _, rS, ls0⟩
    case round =>
      clear g1 rL rR rS ls0
      obtain ⟨m, hm, rfl, hg, rL, rR, ls, rS, hls⟩ := hrel
      have G0 := Lib.hid hg
      have RL := Lib.hid rL
      have RR := Lib.hid rR
      have RS := Lib.hid rS
      have LS := Lib.hid hls
      have GG : Hid (Gr w wr) := Lib.hid (HG0.out.trans hg)
      have LV0 := Lib.hid lv0
      clear hg rL rR rS hls lv0
      by_cases hlt : m < d.length
      · obtain ⟨b, o, rfl, ⟨t0, _⟩, ⟨t1, t1w, t1x⟩, ⟨t2, _⟩, ⟨t3, _⟩⟩ := drws_gr H3.out GG.out m hlt
        have hdo := HD.out.2.2 m hlt
        unfold DrwOk at hdo
        obtain ⟨sn, hsn⟩ := Int.eq_ofNat_of_zero_le hdo.1
        rw [hsn] at t0
        have hsl : sn < l.length := by omega
        have lo0 : 0 ≤ d[m].low := by omega
        have lo1 : d[m].low ≤ 5000 := by omega
        clear hsn hdo
        have hsv : sn < ls.length := by have := LS.out.1; omega
        have lsb := LS.out.2 sn hsv
        have s0 := RS.out.iat sn hsv
        have s1 := RS.out.free sn
        have s2 := RS.out.has
        have gl : (sn : Int) < l.length := by omega
        have ls1 := lsb.1
        have ls2 := lsb.2
        clear lsb
        go_wp2_with fail
        go_region
        all_goals go_wp2_with fail
        all_goals go_roundw
        case rel =>
          refine ⟨m + 1, by omega, by go_num, ?_, ?_, ?_, ls.set sn (if ls[sn] < d[m].low then d[m].low else ls[sn]), ?_, ?_⟩
          · repeat (first | with_reducible exact G0.out | with_reducible refine Gr.setc (by omega) ?_ | with_reducible refine Gr.alloc _ ?_ | with_reducible refine Gr.xt _ _ ?_ | with_reducible refine Gr.drew ?_)
          · repeat (first | with_reducible exact RL.out | with_reducible refine Row.alloc _ ?_ | with_reducible refine Row.drew ?_ | with_reducible refine Row.xt _ _ ?_ | with_reducible refine Row.oth ?_ (by omega))
          · repeat (first | with_reducible exact RR.out | with_reducible refine Row.alloc _ ?_ | with_reducible refine Row.drew ?_ | with_reducible refine Row.xt _ _ ?_ | with_reducible refine Row.oth ?_ (by omega))
          · repeat (first | with_reducible exact RS.out.iset sn _ | with_reducible refine Row.alloc _ ?_ | with_reducible refine Row.drew ?_ | with_reducible refine Row.xt _ _ ?_ | with_reducible refine Row.oth ?_ (by omega))
          · exact LS.out.set sn _ (by split <;> omega) (by split <;> omega)
        case measure => simp [intOf]; omega
      · obtain ⟨w1, rfl⟩ : ∃ w1 : World, w1 = wr := ⟨_, rfl⟩
        go_wp2_with fail
        go_loopw [12] (fun i wr => ∃ n : Nat, n ≤ l.length ∧ i = .int .i64 ((n : Int) - 1) ∧ Gr W0 wr ∧ Row wr (W0.heap.size + 1) 31 [.slice au l.length cu, .slice (some ⟨W0.heap.size, 0, none⟩) l.length l.length] ∧ ∃ lv ls, Row wr W0.heap.size 3 (nums lv) ∧ Row wr (W0.heap.size + 1 + 1) 3 (nums ls) ∧ LvsOk l lv ∧ NeedOk l ls) (fun i _ => (intOf i + 1).toNat)
        case atStart => exact ⟨l.length, Nat.le_refl _, rfl, G0.out, RR.out, _, ls, RL.out, RS.out, LV0.out, LS.out⟩
        case round =>
          clear G0 RL RR RS LS GG LV0
          obtain ⟨n, hn, rfl, hg, rR, lv, ls, rL, rS, hlv, hls⟩ := hrel
          have G0 := Lib.hid hg
          have RL := Lib.hid rL
          have RR := Lib.hid rR
          have RS := Lib.hid rS
          have LS := Lib.hid hls
          have LV := Lib.hid hlv
          have GG : Hid (Gr w wr) := Lib.hid (HG0.out.trans hg)
          have x1 := rR.cell 1 (by simp)
          have x0 := rR.cell 0 (by simp)
          simp only [List.getElem_cons_succ, List.getElem_cons_zero] at x0 x1
          have hhR := rR.has
          have hhL := rL.has
          have hhS := rS.has
          clear hg rL rR rS hls hlv
          cases n with
          | zero =>
            have e0 := (R4.out.gr G0.out).cell 0 (by simp)
            have e1 := (R4.out.gr G0.out).cell 1 (by simp)
            have e2 := (R4.out.gr G0.out).free 0
            have e3 := (R4.out.gr G0.out).free 1
            have e4 := (R4.out.gr G0.out).has
            simp only [List.getElem_cons_succ, List.getElem_cons_zero] at e0 e1
            have RK := Lib.hid (LV.out.rls (d := d) HD.out.1)
            have hll := LV.out.1
            go_wp2_with fail
            refine (refMeets1_at l ⟨usedL l d, lv⟩ d _ _ _ _ _ _ _ _ _ _ _ (usedL_len l d).symm hll.symm (sups_gr H.out GG.out) (HU0.out.giB G0.out) (RL.out.slI (LV.out.wide H16.out)) (drws_gr H3.out GG.out) RK.out HD.out).mono ?_
            rintro e w' ⟨rfl, O7, d7, rfl⟩
            by_cases hm : MeetsP l ⟨usedL l d, lv⟩ d
            · have HM := Lib.hid hm
              rw [decide_eq_true hm]
              clear hm
              go_wp2_with fail
              refine bodyPost_ret (v := .tuple #[.agg #[.slice au l.length cu, .slice (some ⟨W0.heap.size, 0, none⟩) l.length l.length], .int .i64 0]) ?_ rfl ?_
              · simp [results, Try.results35, go_sem, e0, e1, e4]
              · have q1 := ((HU0.out.giB G0.out).keepB (v' := .slice au l.length cu) e0 (by intro x h; cases h)).keepB (v' := .slice (some ⟨W0.heap.size, 0, none⟩) l.length l.length) (a := ⟨w.heap.size, 1, none⟩) (v := .slice none 0 0) (by rw [World.cell?_setCell_other]; exact e1; simp) (by intro x h; cases h)
                have q2 := ((RL.out.slI (LV.out.wide H16.out)).keepI (v' := .slice au l.length cu) e0 (by intro k x h; cases h)).keepI (v' := .slice (some ⟨W0.heap.size, 0, none⟩) l.length l.length) (a := ⟨w.heap.size, 1, none⟩) (v := .slice none 0 0) (by rw [World.cell?_setCell_other]; exact e1; simp) (by intro k x h; cases h)
                exact ⟨⟨usedL l d, lv⟩, _, _, rfl, ⟨au, some ⟨W0.heap.size, 0, none⟩, cu, l.length, by simp only [usedL_len, hll], q1.giB ((Gr.refl _).xt _ _), q2.giI ((Gr.refl _).xt _ _), by rw [usedL_len]; exact cu1, CU.out, by show lv.length ≤ l.length; omega, (by have := HF.out; unfold Fit at *; show lv.length ≤ _; omega)⟩, fun _ => ⟨HD.out, RK.out, HM.out⟩, by unfold Wide; omega, (by repeat (first | with_reducible exact GG.out | with_reducible refine Gr.setc (by omega) ?_ | with_reducible refine Gr.alloc _ ?_ | with_reducible refine Gr.xt _ _ ?_)), .inr ⟨au, l.length, cu, W0.heap.size, l.length, by show _ = Value.agg #[_, .slice _ lv.length _]; rw [hll], by omega⟩⟩
            · rw [decide_eq_false hm]
              clear hm
              go_wp2_with fail
              refine bodyPost_ret (v := .tuple #[.agg #[.slice none 0 0, .slice none 0 0], .int .i64 9]) ?_ rfl ?_
              · simp [results, Try.results35, go_sem, e0, e1, e4]
              · exact ⟨noRls, _, _, rfl, noRls_at _, fun q => by omega, by unfold Wide; omega, (by repeat (first | with_reducible exact GG.out | with_reducible refine Gr.setc (by omega) ?_ | with_reducible refine Gr.alloc _ ?_ | with_reducible refine Gr.xt _ _ ?_)), .inl rfl⟩
          | succ i =>
            rw [show ((i + 1 : Nat) : Int) - 1 = (i : Int) by omega]
            have hi0 : (0 : Int) ≤ i := by omega
            have hib : (i : Int) < l.length := by omega
            obtain ⟨bu, ou, rfl, u1⟩ := (HU0.out.giB G0.out).one i (by rw [usedL_len]; exact hn)
            rw [usedL_at] at u1
            unfold RB at u1
            obtain ⟨b, o, rfl, hsall⟩ := H.out.all (by omega)
            have HS := Lib.hid (hsall i hn)
            clear hsall
            obtain ⟨⟨c0, c0w, c0x⟩, ⟨al, cl, q1, q1l, q1f, cL⟩, ⟨c2, _⟩, ⟨c3, _⟩, c4⟩ := RSup.mono _ _ _ _ _ GG.out HS.out
            unfold RB at c4
            have CL := Lib.hid cL
            have hvl : i < lv.length := by have := LV.out.1; omega
            have hsl : i < ls.length := by have := LS.out.1; omega
            have s0 := RS.out.iat i hsl
            have l0 := RL.out.iat i hvl
            have l1 := RL.out.free i
            have h16 := H16.out i hn
            have hh1 := has_of_cell c0
            have hh2 := has_of_cell u1
            clear cL
            obtain ⟨uu, huu⟩ : ∃ uu : Bool, decide (Used l d i) = uu := ⟨_, rfl⟩
            rw [huu] at u1
            clear huu
            cases uu with
            | false =>
              go_wp2_with fail
              go_roundw
              case rel => exact ⟨i, by omega, by go_num, G0.out, RR.out, lv, ls, RL.out, RS.out, LV.out, LS.out⟩
              case measure => simp [intOf]
            | true =>
              go_wp2_with fail
              refine wp_region_grows_tail 13 (by kernel_rfl) (by kernel_rfl) ?_
              simp only [List.take_succ_cons, List.take_zero, List.drop_succ_cons, List.drop_zero]
              repeat (go_big_quiet_step ((go_at_call 59; exact calls_grows (refLevel_any l[i] _ _ _ _ (CL.out.giI ((Gr.refl _).xt _ _)) h16))))
              refine wpQuiet_nil ?_
              rintro _ ⟨⟨O5, d5⟩, rfl⟩
              have lw := lvI_wide l[i].levels ls[i]
              obtain ⟨kk, hkk⟩ : ∃ kk, lvI l[i].levels ls[i] = kk := ⟨_, rfl⟩
              rw [hkk] at lw ⊢
              have lw0 := lw.1
              have lw1 := lw.2
              clear hkk lw
              have nb : b ≠ W0.heap.size := by have : b < w.heap.size := has_of_cell HS.out.1.1; omega
              have nb' : b ≠ W0.heap.size + 1 + 1 := by have : b < w.heap.size := has_of_cell HS.out.1.1; omega
              by_cases kn : kk < 0
              · have e0 := (R4.out.gr G0.out).cell 0 (by simp)
                have e1 := (R4.out.gr G0.out).cell 1 (by simp)
                have e2 := (R4.out.gr G0.out).free 0
                have e3 := (R4.out.gr G0.out).free 1
                have e4 := (R4.out.gr G0.out).has
                simp only [List.getElem_cons_succ, List.getElem_cons_zero] at e0 e1
                have n4' : w.heap.size ≠ W0.heap.size := by omega
                go_wp2_with fail
                refine bodyPost_ret (v := .tuple #[.agg #[.slice none 0 0, .slice none 0 0], .int .i64 9]) ?_ rfl ?_
                · simp [results, Try.results35, go_sem, e0, e1, e4]
                · exact ⟨noRls, _, _, rfl, noRls_at _, fun q => by omega, by unfold Wide; omega, (by repeat (first | with_reducible exact GG.out | with_reducible refine Gr.setc (by omega) ?_ | with_reducible refine Gr.alloc _ ?_ | with_reducible refine Gr.xt _ _ ?_)), .inl rfl⟩
              · have kn' : 0 ≤ kk := by omega
                have LV2 := Lib.hid (LV.out.set i hn kk kn' lw1)
                have pr := OK.out i hn
                obtain ⟨_, ⟨pr1, pr2, _, pr4, pr5, _, _, _⟩, _⟩ := pr
                clear kn
                by_cases hp : 0 ≤ l[i].parent
                · obtain ⟨p, hpp⟩ := Int.eq_ofNat_of_zero_le hp
                  rw [hpp] at c0 pr2
                  clear hpp hp c0w c0x pr1
                  have hpl : p < ls.length := by omega
                  have hpi : p ≠ i := by omega
                  have p0 := RS.out.iat p hpl
                  have p1 := RS.out.free p
                  have lp := LS.out.2 p hpl
                  have gp : (p : Int) < l.length := by omega
                  have vw := vlt_wide (LV2.out.rls (d := d) HD.out.1) i hn
                  have SL2 := Lib.hid ((RL.out.iset i kk).slI (LV2.out.wide H16.out))
                  go_wp2_with fail
                  refine wp_region_grows_tailx 18 (by kernel_rfl) (by kernel_rfl) ?_
                  simp only [List.take_succ_cons, List.take_zero, List.drop_succ_cons, List.drop_zero]
                  repeat (go_big_quiet_step ((go_at_call 60; exact calls_grows (refVolts_at l ⟨usedL l d, lv.set i kk⟩ _ _ _ _ _ _ _ _ _ _ (usedL_len l d).symm LV2.out.1.symm (sups_gr H.out (by repeat (first | with_reducible exact GG.out | with_reducible refine Gr.setc (by omega) ?_ | with_reducible refine Gr.alloc _ ?_ | with_reducible refine Gr.xt _ _ ?_))) hf' (SL2.out.giI ((Gr.refl _).xt _ _)) (LV2.out.rls HD.out.1) (by omega)))))
                  refine wpQuiet_nil ?_
                  rintro _ ⟨⟨O6, d6⟩, rfl⟩
                  go_wp2_with fail
                  go_roundw
                  case rel => exact ⟨i, by omega, by go_num, (by repeat (first | with_reducible exact G0.out | with_reducible refine Gr.setc (by omega) ?_ | with_reducible refine Gr.alloc _ ?_ | with_reducible refine Gr.xt _ _ ?_)), (by repeat (first | with_reducible exact RR.out | with_reducible refine Row.alloc _ ?_ | with_reducible refine Row.drew ?_ | with_reducible refine Row.xt _ _ ?_ | with_reducible refine Row.oth ?_ (by omega))), lv.set i kk, ls.set p (if ls[p] < vlt l ⟨usedL l d, lv.set i kk⟩ i + l[i].dropout then vlt l ⟨usedL l d, lv.set i kk⟩ i + l[i].dropout else ls[p]), (by repeat (first | with_reducible exact RL.out.iset i kk | with_reducible refine Row.alloc _ ?_ | with_reducible refine Row.drew ?_ | with_reducible refine Row.xt _ _ ?_ | with_reducible refine Row.oth ?_ (by omega))), (by repeat (first | with_reducible exact RS.out | with_reducible refine Row.iset ?_ _ _ | with_reducible refine Row.alloc _ ?_ | with_reducible refine Row.drew ?_ | with_reducible refine Row.xt _ _ ?_ | with_reducible refine Row.oth ?_ (by omega))), LV2.out, LS.out.set p _ (by split <;> omega) (by split <;> omega)⟩
                  case measure => simp [intOf]
                · have hp' : l[i].parent < 0 := by omega
                  clear hp
                  go_wp2_with fail
                  go_roundw
                  case rel => exact ⟨i, by omega, by go_num, (by repeat (first | with_reducible exact G0.out | with_reducible refine Gr.setc (by omega) ?_ | with_reducible refine Gr.alloc _ ?_ | with_reducible refine Gr.xt _ _ ?_)), (by repeat (first | with_reducible exact RR.out | with_reducible refine Row.alloc _ ?_ | with_reducible refine Row.drew ?_ | with_reducible refine Row.xt _ _ ?_ | with_reducible refine Row.oth ?_ (by omega))), lv.set i kk, ls, (by repeat (first | with_reducible exact RL.out.iset i kk | with_reducible refine Row.alloc _ ?_ | with_reducible refine Row.drew ?_ | with_reducible refine Row.xt _ _ ?_ | with_reducible refine Row.oth ?_ (by omega))), (by repeat (first | with_reducible exact RS.out | with_reducible refine Row.alloc _ ?_ | with_reducible refine Row.drew ?_ | with_reducible refine Row.xt _ _ ?_ | with_reducible refine Row.oth ?_ (by omega))), LV2.out, LS.out⟩
                  case measure => simp [intOf]
  · have gb : (beg l d != 0) = true := by simp [g]
    have G := Lib.hid g
    clear g
    go_enter Try.func35, Try.ntmps35
    go_wp2_with fail
    refine (refBegin_anyZ l d ao a3 cap c3 _ (sups_gr H.out ((Gr.refl _).alloc _)) hf (drws_gr H3.out ((Gr.refl _).alloc _)) f3).mono ?_
    rintro e w' ⟨rfl, O1, d1, rfl⟩
    go_wp2_with fail
    refine bodyPost_ret (v := .tuple #[.agg #[.slice none 0 0, .slice none 0 0], .int .i64 (beg l d)]) ?_ rfl ?_
    · simp [results, Try.results35, go_sem]
    · exact ⟨noRls, _, _, rfl, noRls_at _, fun q => absurd q G.out, by unfold Wide; omega, by repeat (first | with_reducible exact Gr.refl _ | with_reducible refine Gr.alloc _ ?_ | with_reducible refine Gr.xt _ _ ?_), .inl rfl⟩
theorem within_anyZ (x lo hi : Int) (w : World) :
    Calls Try.prog 67 #[.int .i64 x, .int .i64 lo, .int .i64 hi] w fun e w' => e = .returned (.bool (decide (lo ≤ x) && decide (x ≤ hi))) ∧ w = w' := by
  go_enter Try.func67, Try.ntmps67
  go_wp2
  all_goals go_ret
  all_goals exact ⟨ret_bool (by rw [Bool.eq_iff_iff]; simp; try omega), rfl⟩
theorem not_sup_lv {s : Sup} {k m : Nat} (hm : m < s.levels.length) (h : ¬ LvOk s.levels m) : ¬ SupOk s k := fun hs => h (hs.2 m hm)
theorem valid_anyZ (s : Sup) (al : Option Addr) (cl k : Nat) (w : World) (hk : k ≤ 16) (hf : Fit s.levels.length) (h : SlOf 1 RI w al s.levels) :
    Calls Try.prog 76 #[.agg #[.int .i64 s.parent, .slice al s.levels.length cl, .int .i64 s.dropout, .int .i64 s.capacity, .bool s.always], .int .i64 k] w (Grows w (.bool (decide (SupOk s k)))) := by
  unfold Fit at hf
  have CL := Lib.hid h
  clear h
  by_cases hH : HeadOk s k
  · have HH := Lib.hid hH
    obtain ⟨h1, h2, h3, h4, h5, h6, h7, h8⟩ := hH
    have h6' : s.parent < 0 → (s.dropout != 0) = false := fun h => by simp [h6 h]
    clear h6
    have h3' : (((s.levels.length : Nat) : Int) == 0) = false := by simp; intro e; rw [e] at h3; simp at h3
    by_cases hp : s.parent < 0
    all_goals
      first | (have h6 := h6' hp) | skip
      clear h6'
      go_enter Try.func76, Try.ntmps76
      go_wp2_with (go_at_call 67; refine (within_anyZ _ _ _ _).mono ?_; rintro e w' ⟨rfl, rfl⟩)
      obtain ⟨w2, hw2⟩ : ∃ w2 : World, Hid (w2 = w.alloc (.cells #[.int .i64 s.parent, .slice al s.levels.length cl, .int .i64 s.dropout, .int .i64 s.capacity, .bool s.always] 70)) := ⟨_, Lib.hid rfl⟩
      go_loopw [44] (fun i wr => ∃ m : Nat, m ≤ s.levels.length ∧ i = .int .i64 m ∧ (∀ j, j < m → LvOk s.levels j) ∧ Gr w2 wr) (fun i _ => s.levels.length - (intOf i).toNat)
      case atStart => exact ⟨0, Nat.zero_le _, rfl, fun j h => absurd h (by omega), by rw [hw2.out]; exact Gr.refl _⟩
      case round =>
        obtain ⟨m, hm, rfl, hlv, hg2⟩ := hrel
        have HLV := Lib.hid hlv
        have G2 := Lib.hid hg2
        have G1 : Hid (Gr w wr) := Lib.hid (((Gr.refl w).alloc _).trans (hw2.out ▸ hg2))
        have e1 : wr.cell? ⟨w.heap.size, 1, none⟩ = some (.slice al s.levels.length cl) := by
          have := hg2; rw [hw2.out] at this; exact cell_gr this (by simp [go_sem])
        clear hlv hg2
        by_cases hlm : m < s.levels.length
        · obtain ⟨bl, ol, rfl, hcs⟩ := (CL.out.giI G1.out).all1 (by omega)
          obtain ⟨d1, d1w, d1x⟩ := hcs m hlm
          by_cases hm0 : 0 < m
          · obtain ⟨d2, _⟩ := hcs (m - 1) (by omega)
            clear hcs
            go_wp2_with (go_at_call 67; refine (within_anyZ _ _ _ _).mono ?_; rintro e w' ⟨rfl, rfl⟩)
            all_goals first
              | (go_ret; exact ⟨ret_bool (dec_false (not_sup_lv hlm (by rintro ⟨_, q1, q2, q3⟩; have q4 := q3 hm0; omega))), G1.out⟩)
              | (go_roundw; (case rel => exact ⟨m + 1, by omega, by go_num, fun j hj => by (by_cases e : j = m); (· subst e; exact ⟨hlm, by omega, by omega, fun _ => by omega⟩); (· exact HLV.out j (by omega)), G2.out⟩); (case measure => simp [intOf]; omega))
          · clear hcs
            go_wp2_with (go_at_call 67; refine (within_anyZ _ _ _ _).mono ?_; rintro e w' ⟨rfl, rfl⟩)
            all_goals first
              | (go_ret; exact ⟨ret_bool (dec_false (not_sup_lv hlm (by rintro ⟨_, q1, q2, q3⟩; omega))), G1.out⟩)
              | (go_roundw; (case rel => exact ⟨m + 1, by omega, by go_num, fun j hj => by (by_cases e : j = m); (· subst e; exact ⟨hlm, by omega, by omega, fun _ => by omega⟩); (· exact HLV.out j (by omega)), G2.out⟩); (case measure => simp [intOf]; omega))
        · go_wp2
          go_ret
          exact ⟨ret_bool (dec_true ⟨HH.out, fun i hi => HLV.out i (by omega)⟩), G1.out⟩
  · have hB := Lib.hid (show ¬ SupOk s k from fun q => hH q.1)
    unfold HeadOk at hH
    have h3' : (((s.levels.length : Nat) : Int) == 0) = decide (s.levels.length < 1) := by rw [Bool.eq_iff_iff]; simp
    go_enter Try.func76, Try.ntmps76
    go_wp2_with (go_at_call 67; refine (within_anyZ _ _ _ _).mono ?_; rintro e w' ⟨rfl, rfl⟩)
    all_goals first
      | (go_ret; exact ⟨ret_bool (dec_false hB.out), by repeat (first | with_reducible exact Gr.refl _ | with_reducible refine Gr.alloc _ ?_)⟩)
      | (exfalso; (try simp only [Bool.not_eq_eq_eq_not, Bool.not_false, Bool.not_true, decide_eq_true_eq, decide_eq_false_iff_not, bne_eq_false_iff_eq, bne_iff_ne, ne_eq, ← List.length_eq_zero_iff] at *); omega)
def VSup (w : World) (v : Value) (s : Sup) : Prop := ∃ al cl, v = .agg #[.int .i64 s.parent, .slice al s.levels.length cl, .int .i64 s.dropout, .int .i64 s.capacity, .bool s.always] ∧ Fit s.levels.length ∧ SlOf 1 RI w al s.levels
def PredOn {α : Type} (V : World → Value → α → Prop) (g : Nat) (lb : Array Value) (xs : List α) (p : α → Prop) (w : World) : Prop :=
  ∀ (W : World) (v : Value) (k : Nat) (hk : k < xs.length), Gr w W → V W v xs[k] → Calls Try.prog g (#[v] ++ lb) W (Grows W (.bool (decide (p xs[k]))))
def FirstOf {α : Type} (p : α → Prop) (xs : List α) (x : Int) : Prop := (x = -1 ∧ ∀ k (h : k < xs.length), ¬ p xs[k]) ∨ ∃ k, ∃ h : k < xs.length, x = k ∧ p xs[k] ∧ ∀ j (hj : j < k), ¬ p xs[j]
def GivesFirst {α : Type} (p : α → Prop) (xs : List α) (w : World) (e : Ending) (w' : World) : Prop := ∃ x, e = .returned (.int .i64 x) ∧ FirstOf p xs x ∧ Gr w w'
theorem indexSup_any (l : List Sup) (ao : Option Addr) (cap : Nat) (p : Sup → Prop) (w : World) (h : SlOf 5 RSup w ao l) (hf : Fit l.length) (hp : PredOn VSup 75 #[] l p w) :
    Calls Try.prog 79 #[.slice ao l.length cap, .func (.func 75) #[] #[]] w (GivesFirst p l w) := by
  unfold Fit at hf
  have H := Lib.hid h
  have HP := Lib.hid hp
  clear h hp
  go_enter Try.func79, Try.ntmps79
  go_wp2
  go_loopw [8] (fun i wr => ∃ k : Nat, k ≤ l.length ∧ i = .int .i64 k ∧ (∀ j (hj : j < k) (hjl : j < l.length), ¬ p l[j]) ∧ Gr w wr) (fun i _ => l.length - (intOf i).toNat)
  case atStart => exact ⟨0, Nat.zero_le _, rfl, fun j h => absurd h (by omega), Gr.refl _⟩
  case round =>
    obtain ⟨k, hk, rfl, hall, hg⟩ := hrel
    have HA := Lib.hid hall
    have HG := Lib.hid hg
    clear hall hg
    by_cases hlt : k < l.length
    · obtain ⟨b, o, rfl, ⟨c0, _⟩, ⟨al, cl, c1, c1l, c1f, cL⟩, ⟨c2, _⟩, ⟨c3, _⟩, c4⟩ := sups_gr H.out HG.out k hlt
      unfold RB at c4
      have hcall := HP.out wr (.agg #[.int .i64 l[k].parent, .slice al l[k].levels.length cl, .int .i64 l[k].dropout, .int .i64 l[k].capacity, .bool l[k].always]) k hlt HG.out ⟨al, cl, rfl, by unfold Fit at *; omega, cL⟩
      clear cL c1f
      by_cases hq : p l[k]
      · rw [decide_eq_true hq] at hcall
        have Q := Lib.hid hq
        clear hq
        go_wp2_with fail
        refine hcall.mono ?_
        rintro e w' ⟨rfl, O, d, rfl⟩
        go_wp2_with fail
        go_ret
        exact ⟨_, rfl, .inr ⟨k, hlt, rfl, Q.out, fun j hj => HA.out j hj (by omega)⟩, HG.out.xt _ _⟩
      · rw [decide_eq_false hq] at hcall
        have Q := Lib.hid hq
        clear hq
        go_wp2_with fail
        refine hcall.mono ?_
        rintro e w' ⟨rfl, O, d, rfl⟩
        go_wp2_with fail
        go_roundw
        case rel =>
          refine ⟨k + 1, by omega, by go_num, fun j hj hjl => ?_, HG.out.xt _ _⟩
          by_cases e : j = k
          · subst e; exact Q.out
          · exact HA.out j (by omega) hjl
        case measure => simp [intOf]; omega
    · go_wp2
      go_ret
      exact ⟨_, rfl, .inl ⟨rfl, fun j hj => HA.out j (by omega) hj⟩, HG.out⟩
def AnyOf {α : Type} (p : α → Prop) (xs : List α) : Prop := ∃ k, ∃ h : k < xs.length, p xs[k]
theorem FirstOf.any {α : Type} {p : α → Prop} {xs : List α} {x : Int} (h : FirstOf p xs x) : decide (0 ≤ x) = decide (AnyOf p xs) := by
  rw [decide_eq_decide]
  rcases h with ⟨rfl, h⟩ | ⟨k, hk, rfl, h, _⟩
  · exact ⟨fun q => by omega, fun ⟨k, hk, q⟩ => absurd q (h k hk)⟩
  · exact ⟨fun _ => ⟨k, hk, h⟩, fun _ => by omega⟩
theorem check1_anyZ (l : List Sup) (w : World) : PredOn VSup 75 #[] l (fun s => 16 < s.levels.length) w := by
  rintro W v k hk hg ⟨al, cl, rfl, hf, _⟩
  unfold Fit at hf
  show Calls Try.prog 75 #[_] W _
  go_enter Try.func75, Try.ntmps75
  go_wp2
  all_goals go_ret
  all_goals exact ⟨ret_bool (by rw [Bool.eq_iff_iff]; simp; omega), (Gr.refl _).alloc _⟩
theorem containsSup_any (l : List Sup) (ao : Option Addr) (cap : Nat) (p : Sup → Prop) (w : World) (h : SlOf 5 RSup w ao l) (hf : Fit l.length) (hp : PredOn VSup 75 #[] l p w) :
    Calls Try.prog 74 #[.slice ao l.length cap, .func (.func 75) #[] #[]] w (Grows w (.bool (decide (AnyOf p l)))) := by
  have H := Lib.hid h
  have HP := Lib.hid hp
  have HF := Lib.hid hf
  clear h hp hf
  go_enter Try.func74, Try.ntmps74
  go_wp2_with fail
  refine (indexSup_any l ao cap p _ H.out HF.out HP.out).mono ?_
  rintro e w' ⟨x, rfl, hx, O, d, rfl⟩
  have X := Lib.hid hx
  clear hx
  go_wp2_with fail
  go_ret
  exact ⟨ret_bool X.out.any, (Gr.refl _).xt _ _⟩
theorem check_any (l : List Sup) (ao : Option Addr) (cap : Nat) (w : World) (h : SlOf 5 RSup w ao l) (hf : Fit l.length) :
    Calls Try.prog 61 #[.slice ao l.length cap] w (Grows w (.int .i64 (chk l))) := by
  have HF := Lib.hid hf
  unfold Fit at hf
  have H := Lib.hid h
  clear h
  by_cases hb : 16 < l.length
  · rw [chk_big (.inl hb)]
    go_enter Try.func61, Try.ntmps61
    go_wp2
    go_ret
    exact ⟨rfl, Gr.refl _⟩
  · go_enter Try.func61, Try.ntmps61
    go_wp2_with fail
    refine (containsSup_any l ao cap _ _ H.out HF.out (check1_anyZ l _)).mono ?_
    rintro e w' ⟨rfl, O, d, rfl⟩
    by_cases ha : AnyOf (fun s : Sup => 16 < s.levels.length) l
    · rw [decide_eq_true ha]
      have HB := Lib.hid (chk_big (l := l) (.inr (by obtain ⟨k, hk, q⟩ := ha; exact ⟨k, hk, q⟩)))
      clear ha
      go_wp2_with fail
      go_ret
      exact ⟨ret_int HB.out.symm, (Gr.refl _).xt _ _⟩
    · rw [decide_eq_false ha]
      have NB : Hid (¬ BigZ l) := Lib.hid (by rintro (h | ⟨k, hk, q⟩); exact hb h; exact ha ⟨k, hk, q⟩)
      clear ha
      obtain ⟨w2, hw2⟩ : ∃ w2 : World, xt w O d = w2 := ⟨_, rfl⟩
      have G2 : Hid (Gr w w2) := Lib.hid (hw2 ▸ (Gr.refl _).xt _ _)
      rw [hw2]
      clear hw2
      go_wp2_with fail
      go_loopw [14] (fun i wr => ∃ k : Nat, k ≤ l.length ∧ i = .int .i64 k ∧ (∀ j, j < k → OkAtZ l j) ∧ Gr w wr) (fun i _ => l.length - (intOf i).toNat)
      case atStart => exact ⟨0, Nat.zero_le _, rfl, fun j h => absurd h (by omega), G2.out⟩
      case round =>
        obtain ⟨k, hk, rfl, hall, hg⟩ := hrel
        have HA := Lib.hid hall
        have HG := Lib.hid hg
        clear hall hg
        by_cases hlt : k < l.length
        · obtain ⟨b, o, rfl, ⟨c0, _⟩, ⟨al, cl, c1, c1l, c1f, cL⟩, ⟨c2, _⟩, ⟨c3, _⟩, c4⟩ := sups_gr H.out HG.out k hlt
          unfold RB at c4
          have CL := Lib.hid cL
          have F1 : Hid (Fit l[k].levels.length) := Lib.hid (by unfold Fit at *; omega)
          clear cL c1f
          go_wp2_with fail
          refine (valid_anyZ l[k] al cl k _ (by omega) F1.out (CL.out.giI ((Gr.refl _).alloc _))).mono ?_
          rintro e w' ⟨rfl, O, d, rfl⟩
          by_cases hs : SupOk l[k] k
          · rw [decide_eq_true hs]
            have HS := Lib.hid hs
            clear hs
            go_wp2_with fail
            go_roundw
            case rel =>
              refine ⟨k + 1, by omega, by go_num, fun j hj => ?_, by repeat (first | with_reducible exact HG.out | with_reducible refine Gr.alloc _ ?_ | with_reducible refine Gr.xt _ _ ?_)⟩
              by_cases e : j = k
              · subst e; exact ⟨hlt, HS.out⟩
              · exact HA.out j (by omega)
            case measure => simp [intOf]; omega
          · rw [decide_eq_false hs]
            have HB := Lib.hid (chk_bad NB.out (fun q => hs (by obtain ⟨_, q⟩ := q k hlt; exact q)))
            clear hs
            go_wp2_with fail
            go_ret
            exact ⟨ret_int HB.out.symm, by repeat (first | with_reducible exact HG.out | with_reducible refine Gr.alloc _ ?_ | with_reducible refine Gr.xt _ _ ?_)⟩
        · go_wp2
          go_ret
          exact ⟨ret_int (chk_ok NB.out (fun j hj => HA.out j (by omega))).symm, HG.out⟩
def VDrw (w : World) (v : Value) (s : Drw) : Prop := v = .agg #[.int .i64 s.supply, .int .i64 s.low, .int .i64 s.high, .int .i64 s.load]
theorem indexDrw_any (q0 : Nat) (l : List Drw) (ao : Option Addr) (cap : Nat) (p : Drw → Prop) (w : World) (h : SlOf 4 RDrw w ao l) (hf : Fit l.length) (hp : PredOn VDrw 66 #[.pointer (some ⟨q0, 0, none⟩)] l p w) :
    Calls Try.prog 77 #[.slice ao l.length cap, .func (.func 66) #[] #[.pointer (some ⟨q0, 0, none⟩)]] w (GivesFirst p l w) := by
  unfold Fit at hf
  have H := Lib.hid h
  have HP := Lib.hid hp
  clear h hp
  go_enter Try.func77, Try.ntmps77
  go_wp2
  go_loopw [8] (fun i wr => ∃ k : Nat, k ≤ l.length ∧ i = .int .i64 k ∧ (∀ j (hj : j < k) (hjl : j < l.length), ¬ p l[j]) ∧ Gr w wr) (fun i _ => l.length - (intOf i).toNat)
  case atStart => exact ⟨0, Nat.zero_le _, rfl, fun j h => absurd h (by omega), Gr.refl _⟩
  case round =>
    obtain ⟨k, hk, rfl, hall, hg⟩ := hrel
    have HA := Lib.hid hall
    have HG := Lib.hid hg
    clear hall hg
    by_cases hlt : k < l.length
    · obtain ⟨b, o, rfl, ⟨c0, _⟩, ⟨c1, _⟩, ⟨c2, _⟩, ⟨c3, _⟩⟩ := drws_gr H.out HG.out k hlt
      have hcall := HP.out wr (.agg #[.int .i64 l[k].supply, .int .i64 l[k].low, .int .i64 l[k].high, .int .i64 l[k].load]) k hlt HG.out rfl
      by_cases hq : p l[k]
      · rw [decide_eq_true hq] at hcall
        have Q := Lib.hid hq
        clear hq
        go_wp2_with fail
        refine hcall.mono ?_
        rintro e w' ⟨rfl, O, d, rfl⟩
        go_wp2_with fail
        go_ret
        exact ⟨_, rfl, .inr ⟨k, hlt, rfl, Q.out, fun j hj => HA.out j hj (by omega)⟩, HG.out.xt _ _⟩
      · rw [decide_eq_false hq] at hcall
        have Q := Lib.hid hq
        clear hq
        go_wp2_with fail
        refine hcall.mono ?_
        rintro e w' ⟨rfl, O, d, rfl⟩
        go_wp2_with fail
        go_roundw
        case rel =>
          refine ⟨k + 1, by omega, by go_num, fun j hj hjl => ?_, HG.out.xt _ _⟩
          by_cases e : j = k
          · subst e; exact Q.out
          · exact HA.out j (by omega) hjl
        case measure => simp [intOf]; omega
    · go_wp2
      go_ret
      exact ⟨_, rfl, .inl ⟨rfl, fun j hj => HA.out j (by omega) hj⟩, HG.out⟩
theorem containsDrw_any (q0 : Nat) (l : List Drw) (ao : Option Addr) (cap : Nat) (p : Drw → Prop) (w : World) (h : SlOf 4 RDrw w ao l) (hf : Fit l.length) (hp : PredOn VDrw 66 #[.pointer (some ⟨q0, 0, none⟩)] l p w) :
    Calls Try.prog 65 #[.slice ao l.length cap, .func (.func 66) #[] #[.pointer (some ⟨q0, 0, none⟩)]] w (Grows w (.bool (decide (AnyOf p l)))) := by
  have H := Lib.hid h
  have HP := Lib.hid hp
  have HF := Lib.hid hf
  clear h hp hf
  go_enter Try.func65, Try.ntmps65
  go_wp2_with fail
  refine (indexDrw_any q0 l ao cap p _ H.out HF.out HP.out).mono ?_
  rintro e w' ⟨x, rfl, hx, O, d, rfl⟩
  have X := Lib.hid hx
  clear hx
  go_wp2_with fail
  go_ret
  exact ⟨ret_bool X.out.any, (Gr.refl _).xt _ _⟩
theorem indexMet_any (q0 q1 : Nat) (l : List Drw) (ao : Option Addr) (cap : Nat) (p : Drw → Prop) (w : World) (h : SlOf 4 RDrw w ao l) (hf : Fit l.length) (hp : PredOn VDrw 70 #[.pointer (some ⟨q0, 0, none⟩), .pointer (some ⟨q1, 0, none⟩)] l p w) :
    Calls Try.prog 77 #[.slice ao l.length cap, .func (.func 70) #[] #[.pointer (some ⟨q0, 0, none⟩), .pointer (some ⟨q1, 0, none⟩)]] w (GivesFirst p l w) := by
  unfold Fit at hf
  have H := Lib.hid h
  have HP := Lib.hid hp
  clear h hp
  go_enter Try.func77, Try.ntmps77
  go_wp2
  go_loopw [8] (fun i wr => ∃ k : Nat, k ≤ l.length ∧ i = .int .i64 k ∧ (∀ j (hj : j < k) (hjl : j < l.length), ¬ p l[j]) ∧ Gr w wr) (fun i _ => l.length - (intOf i).toNat)
  case atStart => exact ⟨0, Nat.zero_le _, rfl, fun j h => absurd h (by omega), Gr.refl _⟩
  case round =>
    obtain ⟨k, hk, rfl, hall, hg⟩ := hrel
    have HA := Lib.hid hall
    have HG := Lib.hid hg
    clear hall hg
    by_cases hlt : k < l.length
    · obtain ⟨b, o, rfl, ⟨c0, _⟩, ⟨c1, _⟩, ⟨c2, _⟩, ⟨c3, _⟩⟩ := drws_gr H.out HG.out k hlt
      have hcall := HP.out wr (.agg #[.int .i64 l[k].supply, .int .i64 l[k].low, .int .i64 l[k].high, .int .i64 l[k].load]) k hlt HG.out rfl
      by_cases hq : p l[k]
      · rw [decide_eq_true hq] at hcall
        have Q := Lib.hid hq
        clear hq
        go_wp2_with fail
        refine hcall.mono ?_
        rintro e w' ⟨rfl, O, d, rfl⟩
        go_wp2_with fail
        go_ret
        exact ⟨_, rfl, .inr ⟨k, hlt, rfl, Q.out, fun j hj => HA.out j hj (by omega)⟩, HG.out.xt _ _⟩
      · rw [decide_eq_false hq] at hcall
        have Q := Lib.hid hq
        clear hq
        go_wp2_with fail
        refine hcall.mono ?_
        rintro e w' ⟨rfl, O, d, rfl⟩
        go_wp2_with fail
        go_roundw
        case rel =>
          refine ⟨k + 1, by omega, by go_num, fun j hj hjl => ?_, HG.out.xt _ _⟩
          by_cases e : j = k
          · subst e; exact Q.out
          · exact HA.out j (by omega) hjl
        case measure => simp [intOf]; omega
    · go_wp2
      go_ret
      exact ⟨_, rfl, .inl ⟨rfl, fun j hj => HA.out j (by omega) hj⟩, HG.out⟩
theorem containsMet_any (q0 q1 : Nat) (l : List Drw) (ao : Option Addr) (cap : Nat) (p : Drw → Prop) (w : World) (h : SlOf 4 RDrw w ao l) (hf : Fit l.length) (hp : PredOn VDrw 70 #[.pointer (some ⟨q0, 0, none⟩), .pointer (some ⟨q1, 0, none⟩)] l p w) :
    Calls Try.prog 65 #[.slice ao l.length cap, .func (.func 70) #[] #[.pointer (some ⟨q0, 0, none⟩), .pointer (some ⟨q1, 0, none⟩)]] w (Grows w (.bool (decide (AnyOf p l)))) := by
  have H := Lib.hid h
  have HP := Lib.hid hp
  have HF := Lib.hid hf
  clear h hp hf
  go_enter Try.func65, Try.ntmps65
  go_wp2_with fail
  refine (indexMet_any q0 q1 l ao cap p _ H.out HF.out HP.out).mono ?_
  rintro e w' ⟨x, rfl, hx, O, d, rfl⟩
  have X := Lib.hid hx
  clear hx
  go_wp2_with fail
  go_ret
  exact ⟨ret_bool X.out.any, (Gr.refl _).xt _ _⟩
theorem draws1_any (l : List Sup) (d : List Drw) (q : Nat) (ao : Option Addr) (cap : Nat) (w : World) (hc : w.cell? ⟨q, 0, none⟩ = some (.slice ao l.length cap)) (hf : Fit l.length) :
    PredOn VDrw 66 #[.pointer (some ⟨q, 0, none⟩)] d (fun x => ¬ DrwOk l x) w := by
  rintro W v k hk hg rfl
  unfold Fit at hf
  have hc' := cell_gr hg hc
  have hh := has_of_cell hc'
  clear hc hg
  show Calls Try.prog 66 #[_, _] W _
  generalize d[k] = x
  by_cases hx : DrwOk l x
  · have HX := Lib.hid hx
    unfold DrwOk at hx
    go_enter Try.func66, Try.ntmps66
    go_wp2_with (go_at_call 67; refine (within_anyZ _ _ _ _).mono ?_; rintro e w' ⟨rfl, rfl⟩)
    all_goals first
      | (go_ret; exact ⟨ret_bool (dec_false (fun q => q HX.out)), (Gr.refl _).alloc _⟩)
      | skip
  · have HX := Lib.hid hx
    unfold DrwOk at hx
    go_enter Try.func66, Try.ntmps66
    go_wp2_with (go_at_call 67; refine (within_anyZ _ _ _ _).mono ?_; rintro e w' ⟨rfl, rfl⟩)
    all_goals first
      | (go_ret; exact ⟨ret_bool (dec_true HX.out), (Gr.refl _).alloc _⟩)
      | (go_ret; exact ⟨ret_bool (Eq.trans (b := true) (by simp; omega) (dec_true HX.out)), (Gr.refl _).alloc _⟩)
theorem not_any {l : List Sup} {d : List Drw} (h : ¬ AnyOf (fun x => ¬ DrwOk l x) d) (k : Nat) (hk : k < d.length) : DrwOk l d[k] := by
  rcases Classical.em (DrwOk l d[k]) with q | q
  · exact q
  · exact absurd ⟨k, hk, q⟩ h
theorem draws_any (l : List Sup) (d : List Drw) (ao a1 : Option Addr) (cap c1 : Nat) (w : World) (h : SlOf 5 RSup w ao l) (hf : Fit l.length) (h1 : SlOf 4 RDrw w a1 d) (f1 : Fit d.length) :
    Calls Try.prog 38 #[.slice ao l.length cap, .slice a1 d.length c1] w (Grows w (.bool (decide (DrwsOk l d)))) := by
  have H := Lib.hid h
  have H1 := Lib.hid h1
  have HF := Lib.hid hf
  have HF1 := Lib.hid f1
  unfold Fit at hf f1
  clear h h1
  go_enter Try.func38, Try.ntmps38
  go_wp2_with fail
  refine (check_any l ao cap _ (sups_gr H.out ((Gr.refl _).alloc _)) HF.out).mono ?_
  rintro e w' ⟨rfl, O, dd, rfl⟩
  by_cases hc : chk l = 0
  · rw [hc]
    have HC := Lib.hid hc
    clear hc
    by_cases hl : d.length ≤ 32
    · go_wp2_with fail
      refine (containsDrw_any w.heap.size d a1 c1 _ _ (drws_gr H1.out (((Gr.refl _).alloc _).xt _ _)) HF1.out (draws1_any l d w.heap.size ao cap _ (by simp [go_sem]) HF.out)).mono ?_
      rintro e w' ⟨rfl, O2, dd2, rfl⟩
      by_cases ha : AnyOf (fun x => ¬ DrwOk l x) d
      · rw [decide_eq_true ha]
        have HA := Lib.hid ha
        clear ha
        go_wp2_with fail
        go_ret
        refine ⟨ret_bool (dec_false ?_), by repeat (first | with_reducible exact Gr.refl _ | with_reducible refine Gr.alloc _ ?_ | with_reducible refine Gr.xt _ _ ?_)⟩
        obtain ⟨k, hk, q⟩ := HA.out
        exact fun hd => q (hd.2.2 k hk)
      · rw [decide_eq_false ha]
        have HA := Lib.hid ha
        clear ha
        go_wp2_with fail
        go_ret
        exact ⟨ret_bool (dec_true ⟨HC.out, hl, not_any HA.out⟩), by repeat (first | with_reducible exact Gr.refl _ | with_reducible refine Gr.alloc _ ?_ | with_reducible refine Gr.xt _ _ ?_)⟩
    · go_wp2_with fail
      go_ret
      exact ⟨ret_bool (dec_false (fun hd => by have := hd.2.1; omega)), by repeat (first | with_reducible exact Gr.refl _ | with_reducible refine Gr.alloc _ ?_ | with_reducible refine Gr.xt _ _ ?_)⟩
  · have hcb : (chk l == 0) = false := by simpa using hc
    have HC := Lib.hid hc
    clear hc
    go_wp2_with fail
    go_ret
    exact ⟨ret_bool (dec_false (fun hd => HC.out hd.1)), by repeat (first | with_reducible exact Gr.refl _ | with_reducible refine Gr.alloc _ ?_ | with_reducible refine Gr.xt _ _ ?_)⟩
theorem rails_any (l : List Sup) (r : Rls) (ao a1 a2 : Option Addr) (cap c1 c2 : Nat) (w : World) (h : SlOf 5 RSup w ao l) (hf : Fit l.length) (h1 : SlOf 1 RB w a1 r.on) (h2 : SlOf 1 RI w a2 r.level) (f1 : Fit r.on.length) (f2 : Fit r.level.length) :
    Calls Try.prog 64 #[.slice ao l.length cap, .agg #[.slice a1 r.on.length c1, .slice a2 r.level.length c2]] w (Grows w (.bool (decide (RlsOk l r)))) := by
  have H := Lib.hid h
  have H2 := Lib.hid h2
  have HF := Lib.hid hf
  unfold Fit at hf f1 f2
  clear h h1 h2
  go_enter Try.func64, Try.ntmps64
  go_wp2_with fail
  refine (check_any l ao cap _ (sups_gr H.out ((Gr.refl _).alloc _)) HF.out).mono ?_
  rintro e w' ⟨rfl, O, dd, rfl⟩
  by_cases hc : chk l = 0
  · rw [hc]
    have HC := Lib.hid hc
    clear hc
    by_cases e1 : r.on.length = l.length
    · by_cases e2 : r.level.length = l.length
      · have E2 := Lib.hid e2
        have E1 := Lib.hid e1
        rw [e1, e2]
        go_wp2_with fail
        go_loopw [29] (fun i wr => ∃ k : Nat, k ≤ l.length ∧ i = .int .i64 k ∧ (∀ j (hj : j < k) (h : j < l.length) (h' : j < r.level.length), 0 ≤ r.level[j] ∧ r.level[j] ≤ (l[j].levels.length : Int) - 1) ∧ Gr w wr) (fun i _ => l.length - (intOf i).toNat)
        case atStart => exact ⟨0, Nat.zero_le _, rfl, fun j h => absurd h (by omega), by repeat (first | with_reducible exact Gr.refl _ | with_reducible refine Gr.alloc _ ?_ | with_reducible refine Gr.xt _ _ ?_)⟩
        case round =>
          obtain ⟨k, hk, rfl, hall, hg⟩ := hrel
          have HA := Lib.hid hall
          have HG := Lib.hid hg
          clear hall hg
          by_cases hlt : k < l.length
          · have hlt' : k < r.level.length := by omega
            obtain ⟨b, o, rfl, _, ⟨al, cl, q1, q1l, q1f, cL⟩, _⟩ := sups_gr H.out HG.out k hlt
            obtain ⟨bl, ol, rfl, q2, q2w⟩ := (H2.out.giI HG.out).one k hlt'
            unfold Fit at q1f
            clear cL
            by_cases hx : 0 ≤ r.level[k] ∧ r.level[k] ≤ (l[k].levels.length : Int) - 1
            · have HX := Lib.hid hx
              go_wp2_with (go_at_call 67; refine (within_anyZ _ _ _ _).mono ?_; rintro e w' ⟨rfl, rfl⟩)
              go_roundw
              case rel =>
                refine ⟨k + 1, by omega, by go_num, fun j hj hjl hj' => ?_, HG.out⟩
                by_cases e : j = k
                · subst e; exact HX.out
                · exact HA.out j (by omega) hjl hj'
              case measure => simp [intOf]; omega
            · have HX := Lib.hid hx
              go_wp2_with (go_at_call 67; refine (within_anyZ _ _ _ _).mono ?_; rintro e w' ⟨rfl, rfl⟩)
              all_goals first
                | (go_ret; exact ⟨ret_bool (dec_false (fun hd => HX.out (hd.2.2.2 k hlt hlt'))), HG.out⟩)
                | (exfalso; (try simp only [Bool.not_eq_eq_eq_not, Bool.not_false, Bool.not_true, decide_eq_true_eq, decide_eq_false_iff_not, Bool.and_eq_true, Bool.and_eq_false_iff] at *); omega)
          · go_wp2_with fail
            go_ret
            exact ⟨ret_bool (dec_true ⟨HC.out, E1.out, E2.out, fun j hj hj' => HA.out j (by omega) hj hj'⟩), HG.out⟩
      · have e2b : ((r.level.length : Int) != l.length) = true := by simp; omega
        go_wp2_with fail
        go_ret
        exact ⟨ret_bool (dec_false (fun hd => e2 hd.2.2.1)), by repeat (first | with_reducible exact Gr.refl _ | with_reducible refine Gr.alloc _ ?_ | with_reducible refine Gr.xt _ _ ?_)⟩
    · have e2b : ((r.on.length : Int) != l.length) = true := by simp; omega
      go_wp2_with fail
      go_ret
      exact ⟨ret_bool (dec_false (fun hd => e1 hd.2.1)), by repeat (first | with_reducible exact Gr.refl _ | with_reducible refine Gr.alloc _ ?_ | with_reducible refine Gr.xt _ _ ?_)⟩
  · have hcb : (chk l != 0) = true := by simpa using hc
    have HC := Lib.hid hc
    clear hc
    go_wp2_with fail
    go_ret
    exact ⟨ret_bool (dec_false (fun hd => HC.out hd.1)), by repeat (first | with_reducible exact Gr.refl _ | with_reducible refine Gr.alloc _ ?_ | with_reducible refine Gr.xt _ _ ?_)⟩
end Go.Proofs.Ytoenkcojfogmmaa

set_option linter.unusedVariables false
set_option linter.unusedSimpArgs false
namespace Go.Proofs.Ytoenkcojfogmmaa
open Go.RowKit
section
variable {P : Program} {ops : Array Oper} {md : Region.Mode} {C : World → Prop} {n : Nat} {L : Array Bool → Act → Prop} {lp m : Nat}
theorem operIn_of_quiet {o : Oper} {a : Act} {K : Act → Prop} {K' : Act → World → Prop} {Q' : Exit → Act → World → Prop} {w : World} (hd : ∀ c, o.op ≠ .defer c) (hw : C w) (h : ∀ a w', C w' → K a → K' a w')
    (hh : o.quiet P a C K) : o.wpIn (Fence.wide.inRound lp) m P a w K' Q' := by
  obtain ⟨v, h1, h2⟩ := hh
  have h3 := h1 w hw
  unfold Oper.quietAt at h3
  unfold Oper.wpIn
  refine ⟨fun _ _ => trivial, ?_⟩
  rw [Fence.inRound_round, Oper.semAt_some _ _ _ hd]
  generalize (execOp a.eval o).run P w = r at *
  cases r with
  | ok x w' =>
    cases x <;> simp only [Oper.quietUpon] at h3 <;> simp only [Oper.uponIn]
    case value u =>
      obtain ⟨e1, e2⟩ := h3
      rw [e1, e2]
      exact h _ _ hw h2
    case skip =>
      obtain ⟨e1, e2⟩ := h3
      rw [e1, ← e2]
      exact h _ _ hw h2
    case enter f args =>
      obtain ⟨e1, hc⟩ := h3
      rw [e1]
      exact And.intro (fun q => by cases q) (CallsIn.inRound lp (callsIn_wide.2 (Calls.mono hc (fun e w'' he => by obtain ⟨he, hw''⟩ := he; subst he; exact h _ _ hw'' h2))))
  | halt x w' => simp only [Oper.quietUpon] at h3
theorem wpOpIn_of_qOp {i : Nat} {a : Act} {K : Act → Prop} {K' : Act → World → Prop} {Q' : Exit → Act → World → Prop} {w : World} (hd : ∀ (o : Oper) c, ops[i]? = some o → o.op ≠ .defer c) (hC : C w) (h : ∀ a w', C w' → K a → K' a w')
    (hh : qOp P ops C i K a) : wpOpIn (Fence.wide.inRound lp) m P ops Q' i K' a w := by
  unfold qOp at hh
  unfold wpOpIn
  split
  · rename_i ho; simp only [ho] at hh; exact h _ _ hC hh
  · rename_i o ho
    simp only [ho] at hh
    split
    · rename_i hw; simp only [hw, if_true] at hh; exact operIn_of_quiet (fun c => hd o c ho) hC h hh
    · rename_i hw; simp only [hw] at hh; exact ⟨fun _ _ => trivial, h _ _ hC hh⟩
theorem anyIn_of_heads {g : Nat} {Q' : Exit → Act → World → Prop} (hd : ∀ (i : Nat) (o : Oper) c, ops[i]? = some o → o.op ≠ .defer c) (hL : ∀ done a w, C w → L done a → wpAnyIn (Fence.wide.inRound lp) m P md ops Q' g done a w) (f : Nat) :
    ∀ (done : Array Bool) (a : Act) (w : World), C w → heads P md ops C n L f done a → wpAnyIn (Fence.wide.inRound lp) m P md ops Q' (f + g) done a w := by
  induction f with
  | zero => intro done a w hw h; rw [Nat.zero_add]; exact hL _ _ _ hw h
  | succ f ih =>
    intro done a w hw h
    obtain ⟨⟨i0, hi0⟩, hall⟩ := h
    have e : f + 1 + g = (f + g) + 1 := by omega
    rw [e]
    refine ⟨fun h0 => (by rw [h0] at hi0; cases hi0), fun i hi => ?_⟩
    exact wpOpIn_of_qOp (hd i) hw (fun a' w' hw' h' => ih _ a' w' hw' h') (hall i hi).2
theorem wpAnyIn_of_seq {F : Fence} {Q' : Exit → Act → World → Prop} : ∀ (l : List Oper) (k : Nat) (listed : Array Bool) (a : Act) (w : World), (∀ j, l[j]? = ops[k + j]?) →
    Region.seqB md ops l.length k listed = true → wpListIn F m P ops Q' l a w → wpAnyIn F m P md ops Q' l.length listed a w
  | [], _, _, _, _, _, hB, h => ⟨by simpa [Region.seqB] using hB, h⟩
  | o :: l, k, listed, a, w, hl, hB, h => by
    have h0 : ops[k]? = some o := by simpa using (hl 0).symm
    simp only [List.length_cons, Region.seqB, Bool.and_eq_true, decide_eq_true_eq] at hB
    refine ⟨fun h1 => (by rw [hB.1] at h1; cases h1), fun i hi => ?_⟩
    rw [hB.1] at hi
    have hik : i = k := by simpa using hi
    subst hik
    have hw : wpOpIn F m P ops Q' i (wpListIn F m P ops Q' l) a w := by unfold wpOpIn; simp only [h0]; exact h
    exact wpOpIn_mono (fun a' w' h' => wpAnyIn_of_seq l (i + 1) _ a' w' (fun j => by have := hl (j + 1); simpa [Nat.add_assoc, Nat.add_comm 1 j] using this) hB.2 h') hw
def noDefer (l : List Oper) : Bool := l.all fun o => match o.op with | .defer _ => false | _ => true
theorem noDefer_spec {l : List Oper} (h : noDefer l = true) (i : Nat) (o : Oper) (c : Call) (ho : l.toArray[i]? = some o) : o.op ≠ .defer c := by
  intro e
  have hm : o ∈ l := by
    have : l[i]? = some o := by simpa using ho
    exact List.mem_of_getElem? this
  have := List.all_eq_true.1 h o hm
  rw [e] at this
  cases this
theorem wpIn_region_class_tail {id : Nat} {Q : Exit → Act → World → Prop} {a : Act} {w : World} {l : List Oper} (n : Nat) (hm : P.follows .mixedOrders = true) (hB : Region.lexTailB .any l.toArray n = true) (hd : noDefer l = true) (hC : C w.drew)
    (h : wpQuiet P l.toArray C (fun a' => ∀ w', C w' → wpListIn (Fence.wide.inRound lp) m P l.toArray Q (l.drop n) a' w') (l.take n) a) : (Code.region id l.toArray true).wpIn (Fence.wide.inRound lp) m P Q a w := by
  simp only [Region.lexTailB, Bool.and_eq_true, decide_eq_true_eq] at hB
  obtain ⟨⟨⟨⟨hsel, hn⟩, hs⟩, hc⟩, hlex⟩ := hB
  have hnl : n < l.length := by simpa using hn
  have e1 : (l.take n).length = n := by simp; omega
  have e2 : (l.drop n).length = l.toArray.size - n := by simp
  have inv0 : HeadInv .any l.toArray n (Array.replicate l.toArray.size false) :=
    ⟨by simp, fun j oj _ hj => (by rw [getD_replicate_false] at hj; cases hj), fun t _ ht => getD_in (by simpa using ht) (getD_replicate_false _ _)⟩
  have H := heads_lex (P := P) (C := C) (md := .any) (g := l.toArray.size - n) hsel hs hc hn (l.take n) 0 _ a
    (fun j hj => by rw [e1] at hj; simp [hj]) (by omega) inv0 (by rw [e1]; exact hlex) h
  rw [e1] at H
  refine wpIn_region_any hm ?_
  have := anyIn_of_heads (Q' := Q) (lp := lp) (m := m) (g := l.toArray.size - n) (noDefer_spec hd) (fun d b w' hw' hL => by
    have := wpAnyIn_of_seq (F := Fence.wide.inRound lp) (m := m) (md := .any) (Q' := Q) (l.drop n) n d b w' (fun j => by simp [List.getElem?_drop]) (by rw [e2]; exact hL.1) (hL.2 w' hw')
    rwa [e2] at this) n _ a w.drew hC H
  rw [show n + (l.toArray.size - n) = l.toArray.size by omega] at this
  exact this
theorem wpIn_region_same_tail {id : Nat} {Q : Exit → Act → World → Prop} {a : Act} {w : World} {l : List Oper} (n : Nat) (hm : P.follows .mixedOrders = true) (hB : Region.lexTailB .any l.toArray n = true) (hd : noDefer l = true)
    (h : wpQuiet P l.toArray (fun w' => w' = w.drew) (fun a' => wpListIn (Fence.wide.inRound lp) m P l.toArray Q (l.drop n) a' w.drew) (l.take n) a) : (Code.region id l.toArray true).wpIn (Fence.wide.inRound lp) m P Q a w :=
  wpIn_region_class_tail (C := fun w' => w' = w.drew) n hm hB hd rfl (by
    have : (fun a' => ∀ w', w' = w.drew → wpListIn (Fence.wide.inRound lp) m P l.toArray Q (l.drop n) a' w') = (fun a' => wpListIn (Fence.wide.inRound lp) m P l.toArray Q (l.drop n) a' w.drew) := by
      funext a'; exact propext ⟨fun q => q _ rfl, fun q w' e => e ▸ q⟩
    rw [this]; exact h)
end

section
variable {P : Program} {ops : Array Oper} {md : Region.Mode}
end
section
variable {P : Program}
end
end Go.Proofs.Ytoenkcojfogmmaa

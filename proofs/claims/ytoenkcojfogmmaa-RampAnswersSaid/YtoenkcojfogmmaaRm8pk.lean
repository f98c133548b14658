/- Lemmas and contracts for the proof of RampAnswers (several texts in one, printed by wip/tools/pack.py): ZFst RqS RqT RqM RqF RxB. -/
import Derived.Test.YtoenkcojfogmmaaRm8pj
import Derived.Test.YtoenkcojfogmmaaRm8pg
import Derived.Test.YtoenkcojfogmmaaRm8pf
set_option maxRecDepth 100000
set_option maxHeartbeats 16000000
set_option linter.unusedVariables false
set_option linter.unusedSimpArgs false
namespace Go.Proofs.Ytoenkcojfogmmaa
open Go.RowKit
open Classical
theorem indexFst_any (q0 q1 : Nat) (l : List Rls) (ao : Option Addr) (cap : Nat) (p : Rls → Prop) (w : World) (h : SlOf 2 RRls w ao l) (hf : Fit l.length) (hp : PredOn VRls 53 #[.pointer (some ⟨q0, 0, none⟩), .pointer (some ⟨q1, 0, none⟩)] l p w) :
    Calls Try.prog 52 #[.slice ao l.length cap, .func (.func 53) #[] #[.pointer (some ⟨q0, 0, none⟩), .pointer (some ⟨q1, 0, none⟩)]] w (GivesFirst p l w) := by
  unfold Fit at hf
  have H := Lib.hid h
  have HP := Lib.hid hp
  clear h hp
  go_enter Try.func52, Try.ntmps52
  go_wp2
  go_loopw [8] (fun i wr => ∃ k : Nat, k ≤ l.length ∧ i = .int .i64 k ∧ (∀ j (hj : j < k) (hjl : j < l.length), ¬ p l[j]) ∧ Gr w wr) (fun i _ => l.length - (intOf i).toNat)
  case atStart => exact ⟨0, Nat.zero_le _, rfl, fun j h => absurd h (by omega), Gr.refl _⟩
  case round =>
    obtain ⟨k, hk, rfl, hall, hg⟩ := hrel
    have HA := Lib.hid hall
    have HG := Lib.hid hg
    clear hall hg
    by_cases hlt : k < l.length
    · obtain ⟨b, o, rfl, ⟨a1, k1, c1, c1l, c1f, s1⟩, ⟨a2, k2, c2, c2l, c2f, s2⟩⟩ := rlss_gr H.out HG.out k hlt
      have hcall := HP.out wr (.agg #[.slice a1 l[k].on.length k1, .slice a2 l[k].level.length k2]) k hlt HG.out ⟨a1, a2, k1, k2, rfl, s1, s2, c1l, c1f, c2l, c2f⟩
      clear s1 s2 c1f c2f
      by_cases hq : p l[k]
      · rw [decide_eq_true hq] at hcall
        have Q := Lib.hid hq
        clear hq
        go_wp2_with fail
        refine hcall.mono ?_
        rintro e w' ⟨rfl, O, d, rfl⟩
        go_wp2_with fail
        go_ret
        exact ⟨_, rfl, .inr ⟨k, hlt, rfl, Q.out, fun j hj => HA.out j hj (by omega)⟩, HG.out.xt _ _⟩
      · rw [decide_eq_false hq] at hcall
        have Q := Lib.hid hq
        clear hq
        go_wp2_with fail
        refine hcall.mono ?_
        rintro e w' ⟨rfl, O, d, rfl⟩
        go_wp2_with fail
        go_roundw
        case rel =>
          refine ⟨k + 1, by omega, by go_num, fun j hj hjl => ?_, HG.out.xt _ _⟩
          by_cases e : j = k
          · subst e; exact Q.out
          · exact HA.out j (by omega) hjl
        case measure => simp [intOf]; omega
    · go_wp2
      go_ret
      exact ⟨_, rfl, .inl ⟨rfl, fun j hj => HA.out j (by omega) hj⟩, HG.out⟩
theorem first1_any (l : List Sup) (d : List Drw) (rs : List Rls) (q0 q1 : Nat) (ao a3 : Option Addr) (cap c3 : Nat) (w : World) (hc : w.cell? ⟨q0, 0, none⟩ = some (.slice ao l.length cap)) (hc1 : w.cell? ⟨q1, 0, none⟩ = some (.slice a3 d.length c3)) (h : SlOf 5 RSup w ao l) (hf : Fit l.length) (h3 : SlOf 4 RDrw w a3 d) (f3 : Fit d.length) :
    PredOn VRls 53 #[.pointer (some ⟨q0, 0, none⟩), .pointer (some ⟨q1, 0, none⟩)] rs (fun r => ¬ MeetsAll l r d) w := by
  rintro W v k hk hg ⟨a1, a2, c1, c2, rfl, s1, s2, _, f1, _, f2⟩
  have hc' := cell_gr hg hc
  have hh := has_of_cell hc'
  have hd' := cell_gr hg hc1
  have hh1 := has_of_cell hd'
  have H := Lib.hid (sups_gr h hg)
  have HD := Lib.hid (drws_gr h3 hg)
  have H1 := Lib.hid s1
  have H2 := Lib.hid s2
  clear hc hc1 hg h h3 s1 s2
  show Calls Try.prog 53 #[_, _, _] W _
  generalize rs[k] = r at *
  go_enter Try.func53, Try.ntmps53
  go_wp2_with fail
  refine (meets_any l r d ao a1 a2 a3 cap c1 c2 c3 _ (sups_gr H.out (by repeat (first | with_reducible exact Gr.refl _ | with_reducible refine Gr.alloc _ ?_ | with_reducible refine Gr.xt _ _ ?_ | with_reducible refine Gr.drew ?_))) hf (H1.out.giB (by repeat (first | with_reducible exact Gr.refl _ | with_reducible refine Gr.alloc _ ?_ | with_reducible refine Gr.xt _ _ ?_ | with_reducible refine Gr.drew ?_))) (H2.out.giI (by repeat (first | with_reducible exact Gr.refl _ | with_reducible refine Gr.alloc _ ?_ | with_reducible refine Gr.xt _ _ ?_ | with_reducible refine Gr.drew ?_))) (drws_gr HD.out (by repeat (first | with_reducible exact Gr.refl _ | with_reducible refine Gr.alloc _ ?_ | with_reducible refine Gr.xt _ _ ?_ | with_reducible refine Gr.drew ?_))) f1 f2 f3).mono ?_
  rintro e w' ⟨rfl, O, dd, rfl⟩
  go_wp2_with fail
  go_ret
  exact ⟨ret_bool (by by_cases q : MeetsAll l r d <;> simp [q]), (by repeat (first | with_reducible exact Gr.refl _ | with_reducible refine Gr.alloc _ ?_ | with_reducible refine Gr.xt _ _ ?_ | with_reducible refine Gr.drew ?_))⟩
def GivesRsE (w : World) (rs : List Rls) (x : Int) (e : Ending) (w' : World) : Prop :=
  ∃ ao cap, e = .returned (.tuple #[.slice ao rs.length cap, .int .i64 x]) ∧ rs.length ≤ cap ∧ SlOf 2 RRls w' ao rs ∧ Gr w w'
def FstIs (l : List Sup) (d : List Drw) (rs : List Rls) (x y : Int) : Prop := if x = 0 ∧ DrwsOk l d then FirstOf (fun r => ¬ MeetsAll l r d) rs y else y = 0
def GivesFst (w : World) (l : List Sup) (d : List Drw) (rs : List Rls) (x : Int) (e : Ending) (w' : World) : Prop := ∃ y, e = .returned (.int .i64 y) ∧ FstIs l d rs x y ∧ Gr w w'
theorem first_any (l : List Sup) (r : Rls) (d : List Drw) (ps : List Wri) (rs : List Rls) (x : Int) (ao a1 a2 ap a3 : Option Addr) (cap c1 c2 cpl c3 : Nat) (w : World) (h : SlOf 5 RSup w ao l) (hf : Fit l.length) (h3 : SlOf 4 RDrw w a3 d) (f3 : Fit d.length) (fr : Fit rs.length) (hx : 0 ≤ x ∧ x ≤ 100)
    (hS : ∀ W, Gr w W → Calls Try.prog 21 #[.slice ao l.length cap, .agg #[.slice a1 r.on.length c1, .slice a2 r.level.length c2], .slice ap ps.length cpl] W (GivesRsE W rs x)) :
    Calls Try.prog 22 #[.slice ao l.length cap, .agg #[.slice a1 r.on.length c1, .slice a2 r.level.length c2], .slice ap ps.length cpl, .slice a3 d.length c3] w (GivesFst w l d rs x) := by
  have H := Lib.hid h
  have HD := Lib.hid h3
  have HS := Lib.hid hS
  obtain ⟨x0, x1⟩ := hx
  clear h h3 hS
  go_enter Try.func22, Try.ntmps22
  go_wp2_with fail
  refine (HS.out _ (by repeat (first | with_reducible exact Gr.refl _ | with_reducible refine Gr.alloc _ ?_ | with_reducible refine Gr.xt _ _ ?_ | with_reducible refine Gr.drew ?_))).mono ?_
  rintro e W1 ⟨as', cs, rfl, ks, ss, hg⟩
  have SS := Lib.hid ss
  have G1 : Hid (Gr w W1) := Lib.hid (Gr.trans (by repeat (first | with_reducible exact Gr.refl _ | with_reducible refine Gr.alloc _ ?_ | with_reducible refine Gr.xt _ _ ?_ | with_reducible refine Gr.drew ?_)) hg)
  have e0 : W1.cell? ⟨w.heap.size, 0, none⟩ = some (.slice ao l.length cap) := cell_gr hg (by simp [go_sem])
  have e1 : W1.cell? ⟨w.heap.size + 2, 0, none⟩ = some (.slice a3 d.length c3) := cell_gr hg (by simp [go_sem])
  have e0h := has_of_cell e0
  have e1h := has_of_cell e1
  clear hg ss
  by_cases hx : x = 0
  · subst hx
    by_cases hd : DrwsOk l d
    · have DD := Lib.hid hd
      clear hd
      go_wp2_with fail
      refine (draws_any l d ao a3 cap c3 _ (sups_gr H.out (G1.out.trans (by repeat (first | with_reducible exact Gr.refl _ | with_reducible refine Gr.alloc _ ?_ | with_reducible refine Gr.xt _ _ ?_ | with_reducible refine Gr.drew ?_)))) hf (drws_gr HD.out (G1.out.trans (by repeat (first | with_reducible exact Gr.refl _ | with_reducible refine Gr.alloc _ ?_ | with_reducible refine Gr.xt _ _ ?_ | with_reducible refine Gr.drew ?_)))) f3).mono ?_
      rw [decide_eq_true DD.out]
      rintro e w' ⟨rfl, O, dd, rfl⟩
      go_wp2_with fail
      refine (indexFst_any w.heap.size (w.heap.size + 2) rs as' cs (fun r => ¬ MeetsAll l r d) _ (SS.out.gr RRls.mono (by repeat (first | with_reducible exact Gr.refl _ | with_reducible refine Gr.alloc _ ?_ | with_reducible refine Gr.xt _ _ ?_ | with_reducible refine Gr.drew ?_))) fr (first1_any l d rs _ _ ao a3 cap c3 _ (by simp [go_sem, e0, e0h]) (by simp [go_sem, e1, e1h]) (sups_gr H.out (G1.out.trans (by repeat (first | with_reducible exact Gr.refl _ | with_reducible refine Gr.alloc _ ?_ | with_reducible refine Gr.xt _ _ ?_ | with_reducible refine Gr.drew ?_)))) hf (drws_gr HD.out (G1.out.trans (by repeat (first | with_reducible exact Gr.refl _ | with_reducible refine Gr.alloc _ ?_ | with_reducible refine Gr.xt _ _ ?_ | with_reducible refine Gr.drew ?_)))) f3)).mono ?_
      rintro e w' ⟨y, rfl, hy, hg⟩
      have HY := Lib.hid hy
      have HG := Lib.hid hg
      clear hy hg
      go_wp2_with fail
      go_ret
      refine ⟨y, rfl, ?_, G1.out.trans (Gr.trans (by repeat (first | with_reducible exact Gr.refl _ | with_reducible refine Gr.alloc _ ?_ | with_reducible refine Gr.xt _ _ ?_ | with_reducible refine Gr.drew ?_)) HG.out)⟩
      rw [FstIs, if_pos ⟨rfl, DD.out⟩]
      exact HY.out
    · have DD := Lib.hid hd
      clear hd
      go_wp2_with fail
      refine (draws_any l d ao a3 cap c3 _ (sups_gr H.out (G1.out.trans (by repeat (first | with_reducible exact Gr.refl _ | with_reducible refine Gr.alloc _ ?_ | with_reducible refine Gr.xt _ _ ?_ | with_reducible refine Gr.drew ?_)))) hf (drws_gr HD.out (G1.out.trans (by repeat (first | with_reducible exact Gr.refl _ | with_reducible refine Gr.alloc _ ?_ | with_reducible refine Gr.xt _ _ ?_ | with_reducible refine Gr.drew ?_)))) f3).mono ?_
      rw [decide_eq_false DD.out]
      rintro e w' ⟨rfl, O, dd, rfl⟩
      go_wp2_with fail
      go_ret
      refine ⟨0, rfl, ?_, G1.out.trans (by repeat (first | with_reducible exact Gr.refl _ | with_reducible refine Gr.alloc _ ?_ | with_reducible refine Gr.xt _ _ ?_ | with_reducible refine Gr.drew ?_))⟩
      rw [FstIs, if_neg (fun q => DD.out q.2)]
  · have hxb : (x != 0) = true := by simpa using hx
    have HX := Lib.hid hx
    clear hx
    go_wp2_with fail
    go_ret
    refine ⟨0, rfl, ?_, G1.out⟩
    rw [FstIs, if_neg (fun q => HX.out q.1)]
noncomputable def wrE (l : List Sup) (p : Wri) : Int := if p.kind ≠ 2 ∧ p.kind ≠ 3 then 1 else if p.unit < 0 ∨ (l.length : Int) ≤ p.unit then 4 else if BadVal l p then 2 else 0
theorem appE_wrE {l : List Sup} {r : Rls} (p : Wri) (h : RlsOk l r) : appE l r p = wrE l p := by
  unfold appE wrE
  rw [if_pos (begR_good h)]
theorem wrE_bad {l : List Sup} {p : Wri} (h : ¬ WOk l p) : wrE l p ≠ 0 := by
  unfold wrE
  split
  · simp
  · split
    · simp
    · split
      · simp
      · rename_i h1 h2 h3
        refine absurd ⟨?_, ?_, ?_, h3⟩ h <;> omega
theorem wrE_small (l : List Sup) (p : Wri) : 0 ≤ wrE l p ∧ wrE l p ≤ 4 := by
  unfold wrE
  split
  · omega
  · split
    · omega
    · split <;> omega
noncomputable def firstE (l : List Sup) : List Wri → Int
  | [] => 0
  | p :: ps => if WOk l p then firstE l ps else wrE l p
theorem firstE_all {l : List Sup} : ∀ {ps : List Wri}, (∀ p ∈ ps, WOk l p) → firstE l ps = 0
  | [], _ => rfl
  | p :: ps, h => by
    unfold firstE
    rw [if_pos (h p (by simp))]
    exact firstE_all fun q hq => h q (by simp [hq])
theorem firstE_at {l : List Sup} : ∀ {ps : List Wri} {k : Nat} (hk : k < ps.length), (∀ j (hj : j < ps.length), j < k → WOk l ps[j]) → ¬ WOk l ps[k] → firstE l ps = wrE l ps[k]
  | p :: ps, 0, _, _, h => by
    unfold firstE
    rw [if_neg (show ¬ WOk l p from h)]; rfl
  | p :: ps, k + 1, hk, h1, h2 => by
    unfold firstE
    rw [if_pos (show WOk l p from h1 0 (by simp) (by omega))]
    exact firstE_at (k := k) (by simpa using hk) (fun j hj hjk => h1 (j + 1) (by simpa using hj) (by omega)) h2
theorem firstE_small (l : List Sup) : ∀ ps : List Wri, 0 ≤ firstE l ps ∧ firstE l ps ≤ 4
  | [] => by simp [firstE]
  | p :: ps => by
    unfold firstE
    split
    · exact firstE_small l ps
    · exact wrE_small l p
noncomputable def stE (l : List Sup) (r : Rls) (ps : List Wri) : Int := if chk l = 0 then (if RlsOk l r then firstE l ps else 1) else chk l
noncomputable def stL (l : List Sup) (r : Rls) (ps : List Wri) : List Rls := if stE l r ps = 0 then stsK r ps ps.length else []
theorem stE_small (l : List Sup) (r : Rls) (ps : List Wri) : 0 ≤ stE l r ps ∧ stE l r ps ≤ 100 := by
  have := firstE_small l ps
  unfold stE
  split
  · split <;> omega
  · unfold chk
    split
    · omega
    · split <;> omega
theorem stL_len (l : List Sup) (r : Rls) (ps : List Wri) : (stL l r ps).length ≤ ps.length + 1 := by
  unfold stL
  split
  · rw [stsK_len]; exact Nat.le_refl _
  · simp
theorem givesRsE_no {w w' : World} {l : List Sup} {r : Rls} {ps : List Wri} {x : Int} (hx : stE l r ps = x) (h0 : x ≠ 0) (hg : Gr w w') : GivesRsE w (stL l r ps) (stE l r ps) (.returned (.tuple #[.slice none 0 0, .int .i64 x])) w' := by
  have e : stL l r ps = [] := by unfold stL; rw [if_neg (by rw [hx]; exact h0)]
  rw [e, hx]
  exact ⟨none, 0, rfl, Nat.le_refl _, SlOf.nil _ _ _ _, hg⟩
theorem runW_pre {l : List Sup} {r : Rls} (ps : List Wri) (hr : RlsOk l r) (k : Nat) (hw : ∀ j (hj : j < ps.length), j < k → WOk l ps[j]) : RlsOk l (runW r (ps.take k)) := runW_ok _ hr (fun p hp => by
  obtain ⟨j, hj, rfl⟩ := List.mem_iff_getElem.1 hp
  have h1 : j < k ∧ j < ps.length := by simp at hj; omega
  rw [List.getElem_take]
  exact hw j h1.2 h1.1)
theorem wri_wide {w : World} {a : Option Addr} {ps : List Wri} (h : SlOf 3 RWri w a ps) (k : Nat) (hk : k < ps.length) : WWide ps[k] := by
  obtain ⟨b, o, _, ⟨_, w0⟩, ⟨_, w1⟩, ⟨_, w2⟩⟩ := h k hk
  exact ⟨w0, w1, w2⟩
theorem refStatesG_any (l : List Sup) (r : Rls) (ps : List Wri) (ao a1 a2 a3 : Option Addr) (cap c1 c2 c3 : Nat) (w : World) (h : SlOf 5 RSup w ao l) (hf : Fit l.length) (h1 : SlOf 1 RB w a1 r.on) (h2 : SlOf 1 RI w a2 r.level) (h3 : SlOf 3 RWri w a3 ps)
    (k1 : r.on.length ≤ c1) (k2 : r.level.length ≤ c2) (f1 : Fit r.on.length) (f2 : Fit r.level.length) (hp : ps.length ≤ 1000) :
    Calls Try.prog 15 #[.slice ao l.length cap, .agg #[.slice a1 r.on.length c1, .slice a2 r.level.length c2], .slice a3 ps.length c3] w (GivesRsE w (stL l r ps) (stE l r ps)) := by
  have H := Lib.hid h
  have H1 := Lib.hid h1
  have H2 := Lib.hid h2
  have H3 := Lib.hid h3
  have FF := Lib.hid (And.intro hf (And.intro f1 f2))
  have KK : Hid (r.on.length ≤ c1 ∧ r.level.length ≤ c2) := Lib.hid ⟨k1, k2⟩
  have cw := chk_wide l
  obtain ⟨W0, hW0⟩ : ∃ W0 : World, Hid (W0 = w.alloc (.cells #[.slice a1 r.on.length c1, .slice a2 r.level.length c2] 31)) := ⟨_, Lib.hid rfl⟩
  obtain ⟨B0, hB0⟩ : ∃ B0 : Nat, Hid (w.heap.size = B0) := ⟨_, Lib.hid rfl⟩
  have G0 : Hid (Gr w W0) := Lib.hid (by rw [hW0.out]; exact (Gr.refl _).alloc _)
  have R0 : Hid (Row W0 B0 31 [.slice a1 r.on.length c1, .slice a2 r.level.length c2]) := Lib.hid (by rw [hW0.out, ← hB0.out]; exact Row.new _ _ _)
  clear h h1 h2 h3 hf f1 f2 k1 k2
  by_cases hc : chk l = 0
  · by_cases hr : RlsOk l r
    · have SE : Hid (stE l r ps = firstE l ps) := Lib.hid (by unfold stE; rw [if_pos hc, if_pos hr])
      have n16 := rls_fit' hr
      have n1 := hr.2.1
      have n2 := hr.2.2.1
      have RO := Lib.hid hr
      have CP := Lib.hid (fun W (hW : Gr w W) => refCopiedG_any r a1 a2 c1 c2 W (H1.out.giB hW) (H2.out.giI hW) (by omega) (by omega))
      clear n1 n2
      have FW := Lib.hid (fun k (hw : ∀ j (hj : j < ps.length), j < k → WOk l ps[j]) => runW_pre ps hr k hw)
      go_enter Try.func15, Try.ntmps15
      go_wp2_with fail
      rw [← hW0.out, hB0.out]
      refine (refCheck_anyZ l ao cap W0 (sups_gr H.out G0.out) FF.out.1).mono ?_
      rw [hc]
      rintro e wq ⟨rfl, hgq⟩
      have GQ := Lib.hid (G0.out.trans hgq)
      have RQ := Lib.hid (R0.out.gr hgq)
      obtain ⟨x0, x1, xh⟩ := pairZ RQ.out
      clear hgq
      go_wp2_with fail
      clear x0 x1 xh
      refine (refRails_any l r ao a1 a2 cap c1 c2 wq (sups_gr H.out GQ.out) FF.out.1 (H1.out.giB GQ.out) (H2.out.giI GQ.out) FF.out.2.1 FF.out.2.2).mono ?_
      rw [decide_eq_true hr]
      rintro e w1 ⟨rfl, hg1⟩
      have G1 := Lib.hid (GQ.out.trans hg1)
      have R1 := Lib.hid (RQ.out.gr hg1)
      clear hg1 GQ RQ G0 R0 hW0 hB0 hc hr
      obtain ⟨x0, x1, xh⟩ := pairZ R1.out
      go_wp2_with fail
      refine (CP.out w1 G1.out).mono ?_
      rintro e w2 ⟨a5, c5, a6, c6, rfl, hc5, hc6, o1, o2, hg2⟩
      have O5 := Lib.hid o1
      have O6 := Lib.hid o2
      have G2 := Lib.hid (G1.out.trans hg2)
      clear o1 o2 hg2 x0 x1 xh CP G1 R1
      obtain ⟨W3, hW3⟩ : ∃ W3 : World, Hid (W3 = w2.alloc (.cells #[.slice a5 r.on.length c5, .slice a6 r.level.length c6] 31)) := ⟨_, Lib.hid rfl⟩
      obtain ⟨B3, hB3⟩ : ∃ B3 : Nat, Hid (w2.heap.size = B3) := ⟨_, Lib.hid rfl⟩
      have G23 : Hid (Gr w2 W3) := Lib.hid (by rw [hW3.out]; exact (Gr.refl _).alloc _)
      have ST : Hid (W3.ownsRow w.heap.size 31 2 (.slice (some ⟨B3, 0, none⟩) 1 1) 1 ([(r, (a5, c5), (a6, c6))].flatMap encR)) := Lib.hid (by
        rw [hW3.out, ← hB3.out]
        exact ⟨by simp [encR], .inr ⟨w2.heap.size, 1, #[.slice a5 r.on.length c5, .slice a6 r.level.length c6], rfl, G2.out.size, Row.new w2 _ _, Nat.le_refl _, by unfold maxLen; omega, rfl, by simp [encR]⟩⟩)
      have RR : Hid (RlRows W3 [(r, (a5, c5), (a6, c6))]) := Lib.hid (fun t ht => by
        rw [List.mem_singleton.1 ht]
        exact ⟨(O5.out.gr G23.out).low (Nat.zero_le _), (O6.out.gr G23.out).low (Nat.zero_le _), hc5, hc6⟩)
      have G3 := Lib.hid (G2.out.trans G23.out)
      obtain ⟨i0, hi, hz0, hz1, hz2⟩ := info_parts infoRls
      go_upto_region 7 with fail
      rw [← hW3.out, hB3.out]
      clear hW3 hB3 O5 O6 hc5 hc6 G23 G2
      go_wp2_with fail
      go_loopw [28, 9] (fun i s9 wr => ∃ (k : Nat) (ts : List RT), k ≤ ps.length ∧ i = .int .i64 k ∧ Gr w wr ∧ wr.ownsRow w.heap.size 31 2 s9 (k + 1) (ts.flatMap encR) ∧ RlRows wr ts ∧ ts.map (fun t => t.1) = stsK r ps k ∧ Hid (∀ j (hj : j < ps.length), j < k → WOk l ps[j])) (fun i _ _ => ps.length - (intOf i).toNat)
      case atStart => exact ⟨0, [(r, (a5, c5), (a6, c6))], Nat.zero_le _, rfl, G3.out, ST.out, RR.out, by simp [stsK, runW], Lib.hid (fun j _ h => absurd h (by omega))⟩
      case round =>
        clear ST RR G3
        obtain ⟨k, ts, hk, rfl, hg, ho, hrr, hts, hwk⟩ := hrel
        have HG := Lib.hid hg
        have HO := Lib.hid ho
        have HR := Lib.hid hrr
        have TS := Lib.hid hts
        have RK := Lib.hid (FW.out k hwk.out)
        have htl : ts.length = k + 1 := by have := congrArg List.length hts; rw [stsK_len] at this; simpa using this
        obtain ⟨g, cg, rfl, hcg, hbg, hcell⟩ := owns_cell ho (by omega)
        by_cases hlt : k < ps.length
        · obtain ⟨b3, o3, rfl, ⟨p0, _⟩, ⟨p1, _⟩, ⟨p2, _⟩⟩ := (H3.out.gr RWri.mono HG.out) k hlt
          have hkt : k < ts.length := by omega
          have ctk : ts[k].1 = runW r (ps.take k) := by
            have h1 : (ts.map fun t => t.1)[k]? = some ts[k].1 := by simp [hkt]
            rw [hts, List.getElem?_eq_getElem (by rw [stsK_len]; omega), stsK_at] at h1
            exact (Option.some.inj h1).symm
          have e0 : wr.cell? ⟨g, k * 2, none⟩ = some (.slice ts[k].2.1.1 ts[k].1.on.length ts[k].2.1.2) := by
            rw [hcell _ (by omega)]
            have := flat_at encR 2 encR_len ts k 0 hkt (by omega)
            rw [Nat.add_zero] at this
            rw [this]; rfl
          have e1 : wr.cell? ⟨g, k * 2 + 1, none⟩ = some (.slice ts[k].2.2.1 ts[k].1.level.length ts[k].2.2.2) := by
            rw [hcell _ (by omega), flat_at encR 2 encR_len ts k 1 hkt (by omega)]; rfl
          obtain ⟨v1, v2, v3, v4⟩ := hrr ts[k] (List.getElem_mem hkt)
          have wk := ok_wide RK.out
          rw [ctk] at e0 e1 v1 v2 v3 v4
          obtain ⟨rk, hrk⟩ : ∃ rk, runW r (ps.take k) = rk := ⟨_, rfl⟩
          rw [hrk] at e0 e1 v1 v2 v3 v4 wk RK
          have RKE := Lib.hid hrk
          obtain ⟨aa, haa⟩ : ∃ aa, ts[k].2.1.1 = aa := ⟨_, rfl⟩
          obtain ⟨ab, hab⟩ : ∃ ab, ts[k].2.2.1 = ab := ⟨_, rfl⟩
          obtain ⟨ca, hca⟩ : ∃ ca, ts[k].2.1.2 = ca := ⟨_, rfl⟩
          obtain ⟨cb, hcb⟩ : ∃ cb, ts[k].2.2.2 = cb := ⟨_, rfl⟩
          rw [haa, hca] at e0
          rw [hab, hcb] at e1
          rw [haa] at v1
          rw [hab] at v2
          rw [hca] at v3
          rw [hcb] at v4
          have PW := Lib.hid (wri_wide H3.out k hlt)
          obtain ⟨p, hpk⟩ : ∃ p, ps[k] = p := ⟨_, rfl⟩
          have HPK := Lib.hid hpk
          rw [hpk] at p0 p1 p2 PW
          have S1 := Lib.hid v1.slB
          have S2 := Lib.hid (v2.slI wk.1)
          have AP := Lib.hid (fun W (hW : Gr wr W) => refApply_anyZ l rk p ao aa ab cap ca cb W (sups_gr H.out (HG.out.trans hW)) FF.out.1 (S1.out.giB hW) (S2.out.giI hW) wk.2.1 wk.2.2 PW.out)
          have x0 := has_of_cell e0
          have x3 := has_of_cell p0
          have g0 : (0 : Int) ≤ k := by omega
          have g1 : (k : Int) < k + 1 := by omega
          have g2 : IntKind.i64.wrap (k : Int) = k := by rw [IntKind.wrap_i64]; omega
          have g3 : ((k + 1 : Nat) : Int) - 1 = k := by omega
          have g4 : (k : Int) < ((k + 1 : Nat) : Int) := by omega
          have g5 : (k : Int) < ps.length := by omega
          obtain ⟨W4, hW4⟩ : ∃ W4 : World, Hid (W4 = wr.alloc (.cells #[.int .i64 p.kind, .int .i64 p.unit, .int .i64 p.value] 46)) := ⟨_, Lib.hid rfl⟩
          obtain ⟨B4, hB4⟩ : ∃ B4 : Nat, Hid (wr.heap.size = B4) := ⟨_, Lib.hid rfl⟩
          have G4 : Hid (Gr wr W4) := Lib.hid (by rw [hW4.out]; exact (Gr.refl _).alloc _)
          have R4 : Hid (Row W4 B4 46 [.int .i64 p.kind, .int .i64 p.unit, .int .i64 p.value]) := Lib.hid (by rw [hW4.out, ← hB4.out]; exact Row.new _ _ _)
          clear hg ho hrr hts hcell v1 v2 v3 v4 wk haa hab hca hcb ctk hrk hpk
          go_upto_region 10 with fail
          rw [← hW4.out, hB4.out]
          have E0 := cell_gr G4.out e0
          have E1 := cell_gr G4.out e1
          have Eh := has_of_cell E0
          have y0 := R4.out.cell 0 (by simp)
          have y1 := R4.out.cell 1 (by simp)
          have y2 := R4.out.cell 2 (by simp)
          have yh := R4.out.has
          simp only [List.getElem_cons_zero, List.getElem_cons_succ] at y0 y1 y2
          clear e0 e1 x0 x3 p0 p1 p2 hW4
          have AE := Lib.hid (appE_wrE p RK.out)
          obtain ⟨rn, hrn⟩ : ∃ rn, appP l rk p = rn := ⟨_, rfl⟩
          obtain ⟨en, hen⟩ : ∃ en, appE l rk p = en := ⟨_, rfl⟩
          rw [hrn, hen] at AP
          rw [hen] at AE
          have HRN := Lib.hid hrn
          have HEN := Lib.hid hen
          clear hrn hen
          go_cut [12, 13] (fun s12 s13 wx => ∃ B12 x1 x2 cx1 cx2, s12 = .pointer (some ⟨B12, 0, none⟩) ∧ s13 = .int .i64 en ∧ wx.cell? ⟨B12, 0, none⟩ = some (.slice x1 rn.on.length cx1) ∧ wx.cell? ⟨B12, 1, none⟩ = some (.slice x2 rn.level.length cx2) ∧ rn.on.length ≤ cx1 ∧ rn.level.length ≤ cx2 ∧ Own1 0 wx 4 (bools rn.on) x1 ∧ Own1 0 wx 3 (nums rn.level) x2 ∧ Gr wr wx)
          case first =>
            go_region_law (
              (go_simp; go_at_call 31; refine (AP.out _ (by repeat (first | with_reducible exact Gr.refl _ | with_reducible refine Gr.alloc _ ?_ | with_reducible refine Gr.xt _ _ ?_ | with_reducible refine Gr.drew ?_ | with_reducible exact G4.out))).mono ?_; rintro e W2 ⟨x1, x2, cx1, cx2, rfl, kx1, kx2, ox1, ox2, OO, dd, rfl⟩; (try simp only [xt_xt, xt_drew] at ox1 ox2); have X1 := Lib.hid ox1; have X2 := Lib.hid ox2; clear ox1 ox2))
            all_goals (go_wp2_with fail; go_meet)
            all_goals
              refine ⟨_, x1, x2, cx1, cx2, rfl, rfl, by simp [go_sem], by simp [go_sem], kx1, kx2, ?_, ?_, (by repeat (first | with_reducible exact Gr.refl _ | with_reducible refine Gr.alloc _ ?_ | with_reducible refine Gr.xt _ _ ?_ | with_reducible refine Gr.drew ?_ | with_reducible exact G4.out))⟩
              · first
                  | (with_reducible refine Own1.low (Own1.far ?_ X1.out ?_) (Nat.zero_le _)) <;> (simp <;> omega)
                  | (refine Own1.low (Own1.gr X1.out ?_) (Nat.zero_le _); repeat (first | with_reducible exact Gr.refl _ | with_reducible refine Gr.drew ?_ | with_reducible refine Gr.alloc _ ?_))
              · first
                  | (with_reducible refine Own1.low (Own1.far ?_ X2.out ?_) (Nat.zero_le _)) <;> (simp <;> omega)
                  | (refine Own1.low (Own1.gr X2.out ?_) (Nat.zero_le _); repeat (first | with_reducible exact Gr.refl _ | with_reducible refine Gr.drew ?_ | with_reducible refine Gr.alloc _ ?_))
          case rest =>
          obtain ⟨B12, x1, x2, cx1, cx2, rfl, rfl, u0, u1, kx1, kx2, ox1, ox2, hg2⟩ := hcut
          obtain ⟨W6, rfl⟩ : ∃ W6 : World, W6 = wc := ⟨_, rfl⟩
          clear E0 E1 Eh y0 y1 y2 yh R4 AP S1 S2
          by_cases hgood : WOk l p
          · have e0 : en = 0 := by rw [← HEN.out]; exact hgood.appE RK.out
            have e1 : rn = applyR rk p := by rw [← HRN.out, appP, if_pos (hgood.appE RK.out)]
            have GD := Lib.hid hgood
            subst e0
            have RN := Lib.hid e1
            have X1 := Lib.hid ox1
            have X2 := Lib.hid ox2
            have G2 := Lib.hid hg2
            have uh := has_of_cell u0
            clear ox1 ox2 hg2 e1 hgood
            go_wp2_with (at_builtin; refine wpList_append_own _ rfl _ _ 41 rfl w.heap.size 31 i0 (.agg #[.slice none 0 0, .slice none 0 0]) 2 48 Try.underlying41 hi hz0 hz1 hz2 rfl (by decide) (.slice (some ⟨g, 0, none⟩) (k + 1) cg) (k + 1) (ts.flatMap encR) rfl ((Gr.owns HO.out G2.out).alloc _) ⟨_, 0, none⟩ 1 1 (encR (rn, (x1, cx1), (x2, cx2))) rfl rfl (cell_two' _ _ _ _ _ (by simp)) (encR_one _) (by unfold maxLen; omega) (by omega) (by have := HG.out.size; have := G2.out.size; simp; omega) ?_; intro v' wz hown' hgrow hnil; have HOz := Lib.hid hown'; have HGz := Lib.hid hgrow; clear hown' hgrow hnil)
            go_roundw
            case rel =>
              refine ⟨k + 1, ts ++ [(rn, (x1, cx1), (x2, cx2))], by omega, by go_num, ?_, ?_, ?_, ?_, Lib.hid (fun j hj hjk => ?_)⟩
              · exact ((HG.out.trans G2.out).alloc _).grown HGz.out (fun j e => by simp [Value.ownBlock] at e; omega)
              · have := HOz.out
                rw [List.flatMap_append]
                simpa using this
              · intro t ht
                rcases List.mem_append.1 ht with q | q
                · exact RlRows.grown (HR.out.gr G2.out) (Gr.owns HO.out G2.out) HGz.out t q
                · rw [List.mem_singleton.1 q]
                  have hh : RlRows W6 [(rn, (x1, cx1), (x2, cx2))] := fun t ht => by rw [List.mem_singleton.1 ht]; exact ⟨X1.out, X2.out, kx1, kx2⟩
                  exact RlRows.grown hh (Gr.owns HO.out G2.out) HGz.out _ (by simp)
              · rw [List.map_append, TS.out, stsK_succ, runW_succ r ps k hlt, RN.out, RKE.out, HPK.out]; rfl
              · by_cases e : j = k
                · subst e; rw [HPK.out]; exact GD.out
                · exact hwk.out j hj (by omega)
            case measure => simp [intOf]; omega
          · have e0 : en ≠ 0 := by rw [AE.out]; exact wrE_bad hgood
            have e1 : stE l r ps = en := by rw [SE.out, firstE_at hlt hwk.out (by rw [HPK.out]; exact hgood), HPK.out, AE.out]
            have hb : (en != 0) = true := by simpa using e0
            have E0 := Lib.hid e0
            have E1 := Lib.hid e1
            have G2 := Lib.hid (HG.out.trans hg2)
            clear e0 e1 hgood u0 u1 ox1 ox2 hg2
            go_wp2_with fail
            go_ret2
            exact givesRsE_no E1.out E0.out G2.out
        · have hkn : k = ps.length := by omega
          subst hkn
          have ALL : Hid (∀ p ∈ ps, WOk l p) := Lib.hid (fun p hp => by
            obtain ⟨j, hj, rfl⟩ := List.mem_iff_getElem.1 hp
            exact hwk.out j hj hj)
          have hw2 : ∀ t ∈ ts, (∀ k (hk : k < t.1.level.length), Wide t.1.level[k]) ∧ Fit t.1.on.length ∧ Fit t.1.level.length := fun t ht => by
            have : t.1 ∈ stsK r ps ps.length := by rw [← hts]; exact List.mem_map_of_mem ht
            obtain ⟨i, hi2, e⟩ := List.getElem_of_mem this
            rw [stsK_at] at e
            rw [← e]
            exact ok_wide (runW_take_ok ps RO.out ALL.out i)
          rw [← htl] at ho
          obtain ⟨a', c', e', hc', hs'⟩ := rows_sl ho hrr hw2 (by omega)
          rw [hts] at hs'
          have SS := Lib.hid hs'
          have E' := Lib.hid e'
          clear hg ho hrr hts hcell hw2 hs' e'
          go_wp2_with fail
          refine bodyPost_ret (v := .tuple #[.slice (some ⟨g, 0, none⟩) (ps.length + 1) cg, .int .i64 0]) ?_ rfl ?_
          · simp [results, Try.results15, go_sem]
          · have e' := E'.out
            rw [htl] at e'
            cases e'
            have ez : stE l r ps = 0 := by rw [SE.out]; exact firstE_all ALL.out
            have el : stL l r ps = stsK r ps ps.length := by unfold stL; rw [if_pos ez]
            rw [ez, el]
            exact ⟨_, cg, by rw [stsK_len], by rw [stsK_len]; omega, SS.out, HG.out⟩
    · have SE : Hid (stE l r ps = 1) := Lib.hid (by unfold stE; rw [if_pos hc, if_neg hr])
      go_enter Try.func15, Try.ntmps15
      go_wp2_with fail
      rw [← hW0.out, hB0.out]
      refine (refCheck_anyZ l ao cap W0 (sups_gr H.out G0.out) FF.out.1).mono ?_
      rw [hc]
      rintro e wq ⟨rfl, hgq⟩
      have GQ := Lib.hid (G0.out.trans hgq)
      have RQ := Lib.hid (R0.out.gr hgq)
      obtain ⟨x0, x1, xh⟩ := pairZ RQ.out
      clear hgq
      go_wp2_with fail
      clear x0 x1 xh
      refine (refRails_any l r ao a1 a2 cap c1 c2 wq (sups_gr H.out GQ.out) FF.out.1 (H1.out.giB GQ.out) (H2.out.giI GQ.out) FF.out.2.1 FF.out.2.2).mono ?_
      rw [decide_eq_false hr]
      rintro e w1 ⟨rfl, hg1⟩
      have G1 := Lib.hid (GQ.out.trans hg1)
      clear hg1
      go_wp2_with fail
      go_ret2
      exact givesRsE_no SE.out (by decide) G1.out
  · have SE : Hid (stE l r ps = chk l) := Lib.hid (by unfold stE; rw [if_neg hc])
    have HC := Lib.hid hc
    have hb : (chk l != 0) = true := by simpa using hc
    obtain ⟨x, hx⟩ : ∃ x, chk l = x := ⟨_, rfl⟩
    rw [hx] at hb HC SE
    have HX := Lib.hid hx
    clear hx hc
    go_enter Try.func15, Try.ntmps15
    go_wp2_with fail
    rw [← hW0.out, hB0.out]
    refine (refCheck_anyZ l ao cap W0 (sups_gr H.out G0.out) FF.out.1).mono ?_
    rw [HX.out]
    rintro e w1 ⟨rfl, hg1⟩
    have G1 := Lib.hid (G0.out.trans hg1)
    clear hg1
    go_wp2_with fail
    go_ret2
    exact givesRsE_no SE.out HC.out G1.out
theorem proStatesG_any (l : List Sup) (r : Rls) (ps : List Wri) (ao a1 a2 a3 : Option Addr) (cap c1 c2 c3 : Nat) (w : World) (h : SlOf 5 RSup w ao l) (hf : Fit l.length) (h1 : SlOf 1 RB w a1 r.on) (h2 : SlOf 1 RI w a2 r.level) (h3 : SlOf 3 RWri w a3 ps)
    (k1 : r.on.length ≤ c1) (k2 : r.level.length ≤ c2) (f1 : Fit r.on.length) (f2 : Fit r.level.length) (hp : ps.length ≤ 1000) :
    Calls Try.prog 21 #[.slice ao l.length cap, .agg #[.slice a1 r.on.length c1, .slice a2 r.level.length c2], .slice a3 ps.length c3] w (GivesRsE w (stL l r ps) (stE l r ps)) := by
  have H := Lib.hid h
  have H1 := Lib.hid h1
  have H2 := Lib.hid h2
  have H3 := Lib.hid h3
  have FF := Lib.hid (And.intro hf (And.intro f1 f2))
  have KK : Hid (r.on.length ≤ c1 ∧ r.level.length ≤ c2) := Lib.hid ⟨k1, k2⟩
  have cw := chk_wide l
  obtain ⟨W0, hW0⟩ : ∃ W0 : World, Hid (W0 = w.alloc (.cells #[.slice a1 r.on.length c1, .slice a2 r.level.length c2] 31)) := ⟨_, Lib.hid rfl⟩
  obtain ⟨B0, hB0⟩ : ∃ B0 : Nat, Hid (w.heap.size = B0) := ⟨_, Lib.hid rfl⟩
  have G0 : Hid (Gr w W0) := Lib.hid (by rw [hW0.out]; exact (Gr.refl _).alloc _)
  have R0 : Hid (Row W0 B0 31 [.slice a1 r.on.length c1, .slice a2 r.level.length c2]) := Lib.hid (by rw [hW0.out, ← hB0.out]; exact Row.new _ _ _)
  clear h h1 h2 h3 hf f1 f2 k1 k2
  by_cases hc : chk l = 0
  · by_cases hr : RlsOk l r
    · have SE : Hid (stE l r ps = firstE l ps) := Lib.hid (by unfold stE; rw [if_pos hc, if_pos hr])
      have n16 := rls_fit' hr
      have n1 := hr.2.1
      have n2 := hr.2.2.1
      have RO := Lib.hid hr
      have CP := Lib.hid (fun W (hW : Gr w W) => copied_any r a1 a2 c1 c2 W (H1.out.giB hW) (H2.out.giI hW) (by omega) (by omega))
      clear n1 n2
      have FW := Lib.hid (fun k (hw : ∀ j (hj : j < ps.length), j < k → WOk l ps[j]) => runW_pre ps hr k hw)
      go_enter Try.func21, Try.ntmps21
      go_upto_region 1 with fail
      rw [← hW0.out, hB0.out]
      obtain ⟨Wq, hWq⟩ : ∃ Wq : World, Hid (Wq = W0.alloc (.cells #[.slice a1 r.on.length c1, .slice a2 r.level.length c2] 31)) := ⟨_, Lib.hid rfl⟩
      have GQ : Hid (Gr w Wq) := Lib.hid (by rw [hWq.out]; exact G0.out.alloc _)
      have RQ : Hid (Row Wq W0.heap.size 31 [.slice a1 r.on.length c1, .slice a2 r.level.length c2]) := Lib.hid (by rw [hWq.out]; exact Row.new _ _ _)
      have RP : Hid (Row Wq B0 31 [.slice a1 r.on.length c1, .slice a2 r.level.length c2]) := Lib.hid (by rw [hWq.out]; exact R0.out.alloc _)
      have BE := Lib.hid (begin_anyZ l [r] ao (some ⟨W0.heap.size, 0, none⟩) cap 1 Wq (sups_gr H.out GQ.out) FF.out.1 (one_rls (a1 := a1) (a2 := a2) (c1 := c1) (c2 := c2) (RQ.out.cell 0 (by simp)) (RQ.out.cell 1 (by simp)) (H1.out.giB GQ.out) (H2.out.giI GQ.out) KK.out.1 KK.out.2 FF.out.2.1 FF.out.2.2) (by unfold Fit; simp))
      obtain ⟨x0, x1, xh⟩ := pairZ R0.out
      go_wp2_with fail
      rw [← hWq.out]
      clear x0 x1 xh
      refine BE.out.mono ?_
      rw [begR_good hr]
      rintro e w1 ⟨rfl, hg1⟩
      have G1 := Lib.hid (GQ.out.trans hg1)
      have R1 := Lib.hid (RP.out.gr hg1)
      clear hg1 GQ RQ RP G0 R0 hW0 hB0 hWq BE hc hr
      obtain ⟨x0, x1, xh⟩ := pairZ R1.out
      go_wp2_with fail
      refine (CP.out w1 G1.out).mono ?_
      rintro e w2 ⟨a5, c5, a6, c6, rfl, hc5, hc6, o1, o2, hg2⟩
      have O5 := Lib.hid o1
      have O6 := Lib.hid o2
      have G2 := Lib.hid (G1.out.trans hg2)
      clear o1 o2 hg2 x0 x1 xh CP G1 R1
      obtain ⟨W3, hW3⟩ : ∃ W3 : World, Hid (W3 = w2.alloc (.cells #[.slice a5 r.on.length c5, .slice a6 r.level.length c6] 31)) := ⟨_, Lib.hid rfl⟩
      obtain ⟨B3, hB3⟩ : ∃ B3 : Nat, Hid (w2.heap.size = B3) := ⟨_, Lib.hid rfl⟩
      have G23 : Hid (Gr w2 W3) := Lib.hid (by rw [hW3.out]; exact (Gr.refl _).alloc _)
      have ST : Hid (W3.ownsRow w.heap.size 31 2 (.slice (some ⟨B3, 0, none⟩) 1 1) 1 ([(r, (a5, c5), (a6, c6))].flatMap encR)) := Lib.hid (by
        rw [hW3.out, ← hB3.out]
        exact ⟨by simp [encR], .inr ⟨w2.heap.size, 1, #[.slice a5 r.on.length c5, .slice a6 r.level.length c6], rfl, G2.out.size, Row.new w2 _ _, Nat.le_refl _, by unfold maxLen; omega, rfl, by simp [encR]⟩⟩)
      have RR : Hid (RlRows W3 [(r, (a5, c5), (a6, c6))]) := Lib.hid (fun t ht => by
        rw [List.mem_singleton.1 ht]
        exact ⟨(O5.out.gr G23.out).low (Nat.zero_le _), (O6.out.gr G23.out).low (Nat.zero_le _), hc5, hc6⟩)
      have G3 := Lib.hid (G2.out.trans G23.out)
      obtain ⟨i0, hi, hz0, hz1, hz2⟩ := info_parts infoRls
      go_upto_region 5 with fail
      rw [← hW3.out, hB3.out]
      clear hW3 hB3 O5 O6 hc5 hc6 G23 G2
      go_wp2_with fail
      go_loopw [26, 9] (fun i s9 wr => ∃ (k : Nat) (ts : List RT), k ≤ ps.length ∧ i = .int .i64 k ∧ Gr w wr ∧ wr.ownsRow w.heap.size 31 2 s9 (k + 1) (ts.flatMap encR) ∧ RlRows wr ts ∧ ts.map (fun t => t.1) = stsK r ps k ∧ Hid (∀ j (hj : j < ps.length), j < k → WOk l ps[j])) (fun i _ _ => ps.length - (intOf i).toNat)
      case atStart => exact ⟨0, [(r, (a5, c5), (a6, c6))], Nat.zero_le _, rfl, G3.out, ST.out, RR.out, by simp [stsK, runW], Lib.hid (fun j _ h => absurd h (by omega))⟩
      case round =>
        clear ST RR G3
        obtain ⟨k, ts, hk, rfl, hg, ho, hrr, hts, hwk⟩ := hrel
        have HG := Lib.hid hg
        have HO := Lib.hid ho
        have HR := Lib.hid hrr
        have TS := Lib.hid hts
        have RK := Lib.hid (FW.out k hwk.out)
        have htl : ts.length = k + 1 := by have := congrArg List.length hts; rw [stsK_len] at this; simpa using this
        obtain ⟨g, cg, rfl, hcg, hbg, hcell⟩ := owns_cell ho (by omega)
        by_cases hlt : k < ps.length
        · obtain ⟨b3, o3, rfl, ⟨p0, _⟩, ⟨p1, _⟩, ⟨p2, _⟩⟩ := (H3.out.gr RWri.mono HG.out) k hlt
          have hkt : k < ts.length := by omega
          have ctk : ts[k].1 = runW r (ps.take k) := by
            have h1 : (ts.map fun t => t.1)[k]? = some ts[k].1 := by simp [hkt]
            rw [hts, List.getElem?_eq_getElem (by rw [stsK_len]; omega), stsK_at] at h1
            exact (Option.some.inj h1).symm
          have e0 : wr.cell? ⟨g, k * 2, none⟩ = some (.slice ts[k].2.1.1 ts[k].1.on.length ts[k].2.1.2) := by
            rw [hcell _ (by omega)]
            have := flat_at encR 2 encR_len ts k 0 hkt (by omega)
            rw [Nat.add_zero] at this
            rw [this]; rfl
          have e1 : wr.cell? ⟨g, k * 2 + 1, none⟩ = some (.slice ts[k].2.2.1 ts[k].1.level.length ts[k].2.2.2) := by
            rw [hcell _ (by omega), flat_at encR 2 encR_len ts k 1 hkt (by omega)]; rfl
          obtain ⟨v1, v2, v3, v4⟩ := hrr ts[k] (List.getElem_mem hkt)
          have wk := ok_wide RK.out
          rw [ctk] at e0 e1 v1 v2 v3 v4
          obtain ⟨rk, hrk⟩ : ∃ rk, runW r (ps.take k) = rk := ⟨_, rfl⟩
          rw [hrk] at e0 e1 v1 v2 v3 v4 wk RK
          have RKE := Lib.hid hrk
          obtain ⟨aa, haa⟩ : ∃ aa, ts[k].2.1.1 = aa := ⟨_, rfl⟩
          obtain ⟨ab, hab⟩ : ∃ ab, ts[k].2.2.1 = ab := ⟨_, rfl⟩
          obtain ⟨ca, hca⟩ : ∃ ca, ts[k].2.1.2 = ca := ⟨_, rfl⟩
          obtain ⟨cb, hcb⟩ : ∃ cb, ts[k].2.2.2 = cb := ⟨_, rfl⟩
          rw [haa, hca] at e0
          rw [hab, hcb] at e1
          rw [haa] at v1
          rw [hab] at v2
          rw [hca] at v3
          rw [hcb] at v4
          have PW := Lib.hid (wri_wide H3.out k hlt)
          obtain ⟨p, hpk⟩ : ∃ p, ps[k] = p := ⟨_, rfl⟩
          have HPK := Lib.hid hpk
          rw [hpk] at p0 p1 p2 PW
          have S1 := Lib.hid v1.slB
          have S2 := Lib.hid (v2.slI wk.1)
          have AP := Lib.hid (fun W (hW : Gr wr W) => apply_any l rk p ao aa ab cap ca cb W (sups_gr H.out (HG.out.trans hW)) FF.out.1 (S1.out.giB hW) (S2.out.giI hW) v3 v4 wk.2.1 wk.2.2 PW.out)
          have x0 := has_of_cell e0
          have x3 := has_of_cell p0
          have g0 : (0 : Int) ≤ k := by omega
          have g1 : (k : Int) < k + 1 := by omega
          have g2 : IntKind.i64.wrap (k : Int) = k := by rw [IntKind.wrap_i64]; omega
          have g3 : ((k + 1 : Nat) : Int) - 1 = k := by omega
          have g4 : (k : Int) < ((k + 1 : Nat) : Int) := by omega
          have g5 : (k : Int) < ps.length := by omega
          obtain ⟨W4, hW4⟩ : ∃ W4 : World, Hid (W4 = wr.alloc (.cells #[.int .i64 p.kind, .int .i64 p.unit, .int .i64 p.value] 46)) := ⟨_, Lib.hid rfl⟩
          obtain ⟨B4, hB4⟩ : ∃ B4 : Nat, Hid (wr.heap.size = B4) := ⟨_, Lib.hid rfl⟩
          have G4 : Hid (Gr wr W4) := Lib.hid (by rw [hW4.out]; exact (Gr.refl _).alloc _)
          have R4 : Hid (Row W4 B4 46 [.int .i64 p.kind, .int .i64 p.unit, .int .i64 p.value]) := Lib.hid (by rw [hW4.out, ← hB4.out]; exact Row.new _ _ _)
          clear hg ho hrr hts hcell v1 v2 v3 v4 wk haa hab hca hcb ctk hrk hpk
          go_upto_region 8 with fail
          rw [← hW4.out, hB4.out]
          have E0 := cell_gr G4.out e0
          have E1 := cell_gr G4.out e1
          have Eh := has_of_cell E0
          have y0 := R4.out.cell 0 (by simp)
          have y1 := R4.out.cell 1 (by simp)
          have y2 := R4.out.cell 2 (by simp)
          have yh := R4.out.has
          simp only [List.getElem_cons_zero, List.getElem_cons_succ] at y0 y1 y2
          clear e0 e1 x0 x3 p0 p1 p2 hW4
          have AE := Lib.hid (appE_wrE p RK.out)
          obtain ⟨rn, hrn⟩ : ∃ rn, appP l rk p = rn := ⟨_, rfl⟩
          obtain ⟨en, hen⟩ : ∃ en, appE l rk p = en := ⟨_, rfl⟩
          rw [hrn, hen] at AP
          rw [hen] at AE
          have HRN := Lib.hid hrn
          have HEN := Lib.hid hen
          clear hrn hen
          go_cut [12, 13] (fun s12 s13 wx => ∃ B12 x1 x2 cx1 cx2, s12 = .pointer (some ⟨B12, 0, none⟩) ∧ s13 = .int .i64 en ∧ wx.cell? ⟨B12, 0, none⟩ = some (.slice x1 rn.on.length cx1) ∧ wx.cell? ⟨B12, 1, none⟩ = some (.slice x2 rn.level.length cx2) ∧ rn.on.length ≤ cx1 ∧ rn.level.length ≤ cx2 ∧ Own1 0 wx 4 (bools rn.on) x1 ∧ Own1 0 wx 3 (nums rn.level) x2 ∧ Gr wr wx)
          case first =>
            go_region_law (
              (go_simp; go_at_call 20; refine (AP.out _ (by repeat (first | with_reducible exact Gr.refl _ | with_reducible refine Gr.alloc _ ?_ | with_reducible refine Gr.xt _ _ ?_ | with_reducible refine Gr.drew ?_ | with_reducible exact G4.out))).mono ?_; rintro e W2 ⟨x1, x2, cx1, cx2, rfl, kx1, kx2, ox1, ox2, OO, dd, rfl⟩; (try simp only [xt_xt, xt_drew] at ox1 ox2); have X1 := Lib.hid ox1; have X2 := Lib.hid ox2; clear ox1 ox2))
            all_goals (go_wp2_with fail; go_meet)
            all_goals
              refine ⟨_, x1, x2, cx1, cx2, rfl, rfl, by simp [go_sem], by simp [go_sem], kx1, kx2, ?_, ?_, (by repeat (first | with_reducible exact Gr.refl _ | with_reducible refine Gr.alloc _ ?_ | with_reducible refine Gr.xt _ _ ?_ | with_reducible refine Gr.drew ?_ | with_reducible exact G4.out))⟩
              · first
                  | (with_reducible refine Own1.low (Own1.far ?_ X1.out ?_) (Nat.zero_le _)) <;> (simp <;> omega)
                  | (refine Own1.low (Own1.gr X1.out ?_) (Nat.zero_le _); repeat (first | with_reducible exact Gr.refl _ | with_reducible refine Gr.drew ?_ | with_reducible refine Gr.alloc _ ?_))
              · first
                  | (with_reducible refine Own1.low (Own1.far ?_ X2.out ?_) (Nat.zero_le _)) <;> (simp <;> omega)
                  | (refine Own1.low (Own1.gr X2.out ?_) (Nat.zero_le _); repeat (first | with_reducible exact Gr.refl _ | with_reducible refine Gr.drew ?_ | with_reducible refine Gr.alloc _ ?_))
          case rest =>
          obtain ⟨B12, x1, x2, cx1, cx2, rfl, rfl, u0, u1, kx1, kx2, ox1, ox2, hg2⟩ := hcut
          obtain ⟨W6, rfl⟩ : ∃ W6 : World, W6 = wc := ⟨_, rfl⟩
          clear E0 E1 Eh y0 y1 y2 yh R4 AP S1 S2
          by_cases hgood : WOk l p
          · have e0 : en = 0 := by rw [← HEN.out]; exact hgood.appE RK.out
            have e1 : rn = applyR rk p := by rw [← HRN.out, appP, if_pos (hgood.appE RK.out)]
            have GD := Lib.hid hgood
            subst e0
            have RN := Lib.hid e1
            have X1 := Lib.hid ox1
            have X2 := Lib.hid ox2
            have G2 := Lib.hid hg2
            have uh := has_of_cell u0
            clear ox1 ox2 hg2 e1 hgood
            go_wp2_with (at_builtin; refine wpList_append_own _ rfl _ _ 41 rfl w.heap.size 31 i0 (.agg #[.slice none 0 0, .slice none 0 0]) 2 48 Try.underlying41 hi hz0 hz1 hz2 rfl (by decide) (.slice (some ⟨g, 0, none⟩) (k + 1) cg) (k + 1) (ts.flatMap encR) rfl ((Gr.owns HO.out G2.out).alloc _) ⟨_, 0, none⟩ 1 1 (encR (rn, (x1, cx1), (x2, cx2))) rfl rfl (cell_two' _ _ _ _ _ (by simp)) (encR_one _) (by unfold maxLen; omega) (by omega) (by have := HG.out.size; have := G2.out.size; simp; omega) ?_; intro v' wz hown' hgrow hnil; have HOz := Lib.hid hown'; have HGz := Lib.hid hgrow; clear hown' hgrow hnil)
            go_roundw
            case rel =>
              refine ⟨k + 1, ts ++ [(rn, (x1, cx1), (x2, cx2))], by omega, by go_num, ?_, ?_, ?_, ?_, Lib.hid (fun j hj hjk => ?_)⟩
              · exact ((HG.out.trans G2.out).alloc _).grown HGz.out (fun j e => by simp [Value.ownBlock] at e; omega)
              · have := HOz.out
                rw [List.flatMap_append]
                simpa using this
              · intro t ht
                rcases List.mem_append.1 ht with q | q
                · exact RlRows.grown (HR.out.gr G2.out) (Gr.owns HO.out G2.out) HGz.out t q
                · rw [List.mem_singleton.1 q]
                  have hh : RlRows W6 [(rn, (x1, cx1), (x2, cx2))] := fun t ht => by rw [List.mem_singleton.1 ht]; exact ⟨X1.out, X2.out, kx1, kx2⟩
                  exact RlRows.grown hh (Gr.owns HO.out G2.out) HGz.out _ (by simp)
              · rw [List.map_append, TS.out, stsK_succ, runW_succ r ps k hlt, RN.out, RKE.out, HPK.out]; rfl
              · by_cases e : j = k
                · subst e; rw [HPK.out]; exact GD.out
                · exact hwk.out j hj (by omega)
            case measure => simp [intOf]; omega
          · have e0 : en ≠ 0 := by rw [AE.out]; exact wrE_bad hgood
            have e1 : stE l r ps = en := by rw [SE.out, firstE_at hlt hwk.out (by rw [HPK.out]; exact hgood), HPK.out, AE.out]
            have hb : (en != 0) = true := by simpa using e0
            have E0 := Lib.hid e0
            have E1 := Lib.hid e1
            have G2 := Lib.hid (HG.out.trans hg2)
            clear e0 e1 hgood u0 u1 ox1 ox2 hg2
            go_wp2_with fail
            go_ret2
            exact givesRsE_no E1.out E0.out G2.out
        · have hkn : k = ps.length := by omega
          subst hkn
          have ALL : Hid (∀ p ∈ ps, WOk l p) := Lib.hid (fun p hp => by
            obtain ⟨j, hj, rfl⟩ := List.mem_iff_getElem.1 hp
            exact hwk.out j hj hj)
          have hw2 : ∀ t ∈ ts, (∀ k (hk : k < t.1.level.length), Wide t.1.level[k]) ∧ Fit t.1.on.length ∧ Fit t.1.level.length := fun t ht => by
            have : t.1 ∈ stsK r ps ps.length := by rw [← hts]; exact List.mem_map_of_mem ht
            obtain ⟨i, hi2, e⟩ := List.getElem_of_mem this
            rw [stsK_at] at e
            rw [← e]
            exact ok_wide (runW_take_ok ps RO.out ALL.out i)
          rw [← htl] at ho
          obtain ⟨a', c', e', hc', hs'⟩ := rows_sl ho hrr hw2 (by omega)
          rw [hts] at hs'
          have SS := Lib.hid hs'
          have E' := Lib.hid e'
          clear hg ho hrr hts hcell hw2 hs' e'
          go_wp2_with fail
          refine bodyPost_ret (v := .tuple #[.slice (some ⟨g, 0, none⟩) (ps.length + 1) cg, .int .i64 0]) ?_ rfl ?_
          · simp [results, Try.results21, go_sem]
          · have e' := E'.out
            rw [htl] at e'
            cases e'
            have ez : stE l r ps = 0 := by rw [SE.out]; exact firstE_all ALL.out
            have el : stL l r ps = stsK r ps ps.length := by unfold stL; rw [if_pos ez]
            rw [ez, el]
            exact ⟨_, cg, by rw [stsK_len], by rw [stsK_len]; omega, SS.out, HG.out⟩
    · have SE : Hid (stE l r ps = 1) := Lib.hid (by unfold stE; rw [if_pos hc, if_neg hr])
      go_enter Try.func21, Try.ntmps21
      go_upto_region 1 with fail
      rw [← hW0.out, hB0.out]
      obtain ⟨Wq, hWq⟩ : ∃ Wq : World, Hid (Wq = W0.alloc (.cells #[.slice a1 r.on.length c1, .slice a2 r.level.length c2] 31)) := ⟨_, Lib.hid rfl⟩
      have GQ : Hid (Gr w Wq) := Lib.hid (by rw [hWq.out]; exact G0.out.alloc _)
      have RQ : Hid (Row Wq W0.heap.size 31 [.slice a1 r.on.length c1, .slice a2 r.level.length c2]) := Lib.hid (by rw [hWq.out]; exact Row.new _ _ _)
      have RP : Hid (Row Wq B0 31 [.slice a1 r.on.length c1, .slice a2 r.level.length c2]) := Lib.hid (by rw [hWq.out]; exact R0.out.alloc _)
      have BE := Lib.hid (begin_anyZ l [r] ao (some ⟨W0.heap.size, 0, none⟩) cap 1 Wq (sups_gr H.out GQ.out) FF.out.1 (one_rls (a1 := a1) (a2 := a2) (c1 := c1) (c2 := c2) (RQ.out.cell 0 (by simp)) (RQ.out.cell 1 (by simp)) (H1.out.giB GQ.out) (H2.out.giI GQ.out) KK.out.1 KK.out.2 FF.out.2.1 FF.out.2.2) (by unfold Fit; simp))
      obtain ⟨x0, x1, xh⟩ := pairZ R0.out
      go_wp2_with fail
      rw [← hWq.out]
      clear x0 x1 xh
      refine BE.out.mono ?_
      rw [begR_bad hc hr]
      rintro e w1 ⟨rfl, hg1⟩
      have G1 := Lib.hid (GQ.out.trans hg1)
      clear hg1
      go_wp2_with fail
      go_ret2
      exact givesRsE_no SE.out (by decide) G1.out
  · have SE : Hid (stE l r ps = chk l) := Lib.hid (by unfold stE; rw [if_neg hc])
    have HC := Lib.hid hc
    have hb : (chk l != 0) = true := by simpa using hc
    obtain ⟨x, hx⟩ : ∃ x, chk l = x := ⟨_, rfl⟩
    rw [hx] at hb HC SE
    have HX := Lib.hid hx
    have HBG := Lib.hid (begR_chk (rs := [r]) hc)
    clear hx hc
    go_enter Try.func21, Try.ntmps21
    go_upto_region 1 with fail
    rw [← hW0.out, hB0.out]
    obtain ⟨Wq, hWq⟩ : ∃ Wq : World, Hid (Wq = W0.alloc (.cells #[.slice a1 r.on.length c1, .slice a2 r.level.length c2] 31)) := ⟨_, Lib.hid rfl⟩
    have GQ : Hid (Gr w Wq) := Lib.hid (by rw [hWq.out]; exact G0.out.alloc _)
    have RQ : Hid (Row Wq W0.heap.size 31 [.slice a1 r.on.length c1, .slice a2 r.level.length c2]) := Lib.hid (by rw [hWq.out]; exact Row.new _ _ _)
    have RP : Hid (Row Wq B0 31 [.slice a1 r.on.length c1, .slice a2 r.level.length c2]) := Lib.hid (by rw [hWq.out]; exact R0.out.alloc _)
    have BE := Lib.hid (begin_anyZ l [r] ao (some ⟨W0.heap.size, 0, none⟩) cap 1 Wq (sups_gr H.out GQ.out) FF.out.1 (one_rls (a1 := a1) (a2 := a2) (c1 := c1) (c2 := c2) (RQ.out.cell 0 (by simp)) (RQ.out.cell 1 (by simp)) (H1.out.giB GQ.out) (H2.out.giI GQ.out) KK.out.1 KK.out.2 FF.out.2.1 FF.out.2.2) (by unfold Fit; simp))
    obtain ⟨x0, x1, xh⟩ := pairZ R0.out
    go_wp2_with fail
    rw [← hWq.out]
    clear x0 x1 xh
    refine BE.out.mono ?_
    rw [HBG.out, HX.out]
    rintro e w1 ⟨rfl, hg1⟩
    have G1 := Lib.hid (GQ.out.trans hg1)
    clear hg1
    go_wp2_with fail
    go_ret2
    exact givesRsE_no SE.out HC.out G1.out
def GivesBool (w : World) (e : Ending) (w' : World) : Prop := ∃ b : Bool, e = .returned (.bool b) ∧ Gr w w'
theorem smallS_any (l : List Sup) (al : Option Addr) (cl : Nat) (w : World) (h : SlOf 5 RSup w al l) (fl : Fit l.length) :
    Calls Try.prog 23 #[.slice al l.length cl] w (GivesBool w) := by
  have H := Lib.hid h
  unfold Fit at fl
  clear h
  go_enter Try.func23, Try.ntmps23
  go_wp2_with fail
  go_loopw [3, 4] (fun s3 s4 wr => ∃ (n i : Nat), s3 = .int .i64 (n : Int) ∧ s4 = .int .i64 (i : Int) ∧ i ≤ l.length ∧ n ≤ 300000000000000 ∧ Gr w wr) (fun _ s4 _ => l.length - (intOf s4).toNat)
  case atStart => exact ⟨l.length, 0, rfl, rfl, Nat.zero_le _, by omega, Gr.refl _⟩
  case round =>
    obtain ⟨n, i, rfl, rfl, hi, hn, hg⟩ := hrel
    have HG := Lib.hid hg
    clear hg
    by_cases hlt : i < l.length
    · have k2 : (i : Int) < l.length := by omega
      by_cases h9 : n < 900
      · have k9 : (n : Int) < 900 := by omega
        obtain ⟨b, o, rfl, ⟨d0, _⟩, ⟨ap, cp, d1, _, d1f, _⟩, ⟨d2, _⟩, ⟨d3, _⟩, d4⟩ := sups_gr H.out HG.out i hlt
        unfold Fit at d1f
        have dh := has_of_cell d0
        have b1 : (0 : Int) ≤ l[i].levels.length ∧ (l[i].levels.length : Int) ≤ 140737488351232 := by omega
        go_wp2_with fail
        go_roundw
        case rel => exact ⟨n + l[i].levels.length, i + 1, by go_num, by go_num, by omega, by omega, HG.out⟩
        case measure => simp [intOf]; omega
      · have k9 : ¬ (n : Int) < 900 := by omega
        go_wp2_with fail
        go_ret
        exact ⟨_, rfl, HG.out⟩
    · have k2 : ¬ (i : Int) < l.length := by omega
      go_wp2_with fail
      go_ret
      exact ⟨_, rfl, HG.out⟩
theorem neq_write (a b c d e f : Int) (w : World) : (binOp .neq 46 (.agg #[.int .i64 a, .int .i64 b, .int .i64 c]) (.agg #[.int .i64 d, .int .i64 e, .int .i64 f])).run Try.prog w = .ok (.bool (!(a == d && b == e && c == f))) w := by
  have hu : Try.prog.underlying 46 = some (.struct (Try.prog.fieldsOf 46)) := by kernel_rfl
  have hs : Try.prog.stoodInHeld 46 = false := by kernel_rfl
  rw [run_neq_struct, run_equalIn_agg w 9999 _ _ _ hu hs]
  cases h1 : (a == d) <;> cases h2 : (b == e) <;> cases h3 : (c == f) <;> simp [go_sem, h1, h2, h3]
theorem neq_writeE (a b c : Int) (w : World) : (binOp .neq 46 (.agg #[.int .i64 a, .int .i64 b, .int .i64 c]) (.agg #[.int .i64 a, .int .i64 b, .int .i64 c])).run Try.prog w = .ok (.bool false) w := by
  rw [neq_write]; simp
theorem sameWritesE_any (xs : List Wri) (ax ay : Option Addr) (cx cy : Nat) (w : World) (hx : SlOf 3 RWri w ax xs) (hy : SlOf 3 RWri w ay xs) (fx : Fit xs.length) :
    Calls Try.prog 27 #[.slice ax xs.length cx, .slice ay xs.length cy] w (Grows w (.bool true)) := by
  unfold Fit at fx
  have HX := Lib.hid hx
  have HY := Lib.hid hy
  clear hx hy
  have hlb : ((xs.length : Int) != (xs.length : Int)) = false := by simp
  go_enter Try.func27, Try.ntmps27
  go_wp2_with fail
  go_loopw [13] (fun i wr => ∃ k : Nat, k ≤ xs.length ∧ i = .int .i64 k ∧ Gr w wr) (fun i _ => xs.length - (intOf i).toNat)
  case atStart => exact ⟨0, Nat.zero_le _, rfl, Gr.refl _⟩
  case round =>
    obtain ⟨k, hk, rfl, hg⟩ := hrel
    have HG := Lib.hid hg
    by_cases hlt : k < xs.length
    · obtain ⟨b, o, rfl, ⟨p0, _⟩, ⟨p1, _⟩, ⟨p2, _⟩⟩ := HX.out.gr RWri.mono hg k hlt
      obtain ⟨b', o', rfl, ⟨q0, _⟩, ⟨q1, _⟩, ⟨q2, _⟩⟩ := HY.out.gr RWri.mono hg k hlt
      have k2 : (k : Int) < xs.length := by omega
      have NQ := neq_writeE xs[k].kind xs[k].unit xs[k].value
      clear hg
      go_wp2_with fail
      go_quiet (fail)
      go_wp2_with fail
      go_roundw
      case rel => exact ⟨k + 1, by omega, by go_num, by first | exact HG.out | exact HG.out.drewN _⟩
      case measure => simp [intOf]; omega
    · go_wp2_with fail
      go_ret
      exact ⟨rfl, HG.out⟩
theorem sameAllE_any (rs : List Rls) (ax ay : Option Addr) (cx cy : Nat) (w : World) (hx : SlOf 2 RRls w ax rs) (hy : SlOf 2 RRls w ay rs) (fx : Fit rs.length) :
    Calls Try.prog 29 #[.slice ax rs.length cx, .slice ay rs.length cy] w (Grows w (.bool true)) := by
  unfold Fit at fx
  have HX := Lib.hid hx
  have HY := Lib.hid hy
  clear hx hy
  have hlb : ((rs.length : Int) != (rs.length : Int)) = false := by simp
  go_enter Try.func29, Try.ntmps29
  go_wp2_with fail
  go_loopw [13] (fun i wr => ∃ k : Nat, k ≤ rs.length ∧ i = .int .i64 k ∧ Gr w wr) (fun i _ => rs.length - (intOf i).toNat)
  case atStart => exact ⟨0, Nat.zero_le _, rfl, Gr.refl _⟩
  case round =>
    obtain ⟨k, hk, rfl, hg⟩ := hrel
    have HG := Lib.hid hg
    by_cases hlt : k < rs.length
    · obtain ⟨b, o, rfl, ⟨a1, k1, p1, _, f1, s1⟩, ⟨a2, k2', p2, _, f2, s2⟩⟩ := rlss_gr HX.out hg k hlt
      obtain ⟨b', o', rfl, ⟨a3, k3, p3, _, f3, s3⟩, ⟨a4, k4, p4, _, f4, s4⟩⟩ := rlss_gr HY.out hg k hlt
      have k2 : (k : Int) < rs.length := by omega
      have IA : Hid (∀ W, Gr wr W → Calls Try.prog 18 #[.agg #[.slice a1 rs[k].on.length k1, .slice a2 rs[k].level.length k2'], .agg #[.slice a3 rs[k].on.length k3, .slice a4 rs[k].level.length k4]] W (Grows W (.bool true))) := Lib.hid (fun W hW => by
        have := sameRails_any rs[k] rs[k] a1 a2 a3 a4 k1 k2' k3 k4 W (s1.giB hW) (s2.giI hW) (s3.giB hW) (s4.giI hW) f1 f2 f1 f2
        rwa [decide_eq_true rfl] at this)
      have h1 := has_of_cell p1
      have h2 := has_of_cell p3
      clear hg s1 s2 s3 s4
      go_wp2_with fail
      refine wp_region_grows (by kernel_rfl) (by kernel_rfl) ?_
      repeat (go_big_quiet_step (first | (go_at_call 18; exact calls_grows (IA.out _ ((Gr.refl _).xt _ _)))))
      refine wpQuiet_nil ?_
      rintro _ ⟨⟨O, d⟩, rfl⟩
      go_wp2_with fail
      go_roundw
      case rel => exact ⟨k + 1, by omega, by go_num, HG.out.xt _ _⟩
      case measure => simp [intOf]; omega
    · go_wp2_with fail
      go_ret
      exact ⟨rfl, HG.out⟩
theorem firstOf_one {α : Type} {p : α → Prop} {xs : List α} {x y : Int} (h : FirstOf p xs x) (k : FirstOf p xs y) : x = y := by
  rcases h with ⟨rfl, h⟩ | ⟨i, hi, rfl, h1, h2⟩
  · rcases k with ⟨rfl, _⟩ | ⟨j, hj, rfl, k1, _⟩
    · rfl
    · exact absurd k1 (h j hj)
  · rcases k with ⟨rfl, k⟩ | ⟨j, hj, rfl, k1, k2⟩
    · exact absurd h1 (k i hi)
    · rcases Nat.lt_trichotomy i j with q | q | q
      · exact absurd h1 (k2 i q)
      · rw [q]
      · exact absurd k1 (h2 j q)
theorem fstIs_one {l : List Sup} {d : List Drw} {rs : List Rls} {x y z : Int} (h : FstIs l d rs x y) (k : FstIs l d rs x z) : y = z := by
  unfold FstIs at h k
  split at h
  · rename_i q
    rw [if_pos q] at k
    exact firstOf_one h k
  · rename_i q
    rw [if_neg q] at k
    rw [h, k]
theorem least_ex {P : Nat → Prop} : ∀ n, P n → ∃ m, P m ∧ ∀ j, j < m → ¬ P j := by
  intro n
  induction n using Nat.strongRecOn with
  | ind n ih =>
    intro h
    by_cases q : ∃ j, j < n ∧ P j
    · obtain ⟨j, hj, pj⟩ := q
      exact ih j hj pj
    · exact ⟨n, h, fun j hj pj => q ⟨j, hj, pj⟩⟩
theorem fstIs_ex (l : List Sup) (d : List Drw) (rs : List Rls) (x : Int) : ∃ y, FstIs l d rs x y := by
  unfold FstIs
  split
  · by_cases h : ∃ k, ∃ h : k < rs.length, ¬ MeetsAll l rs[k] d
    · obtain ⟨k0, h0⟩ := h
      obtain ⟨m, ⟨hk, hm⟩, hmin⟩ := least_ex (P := fun k => ∃ h : k < rs.length, ¬ MeetsAll l rs[k] d) k0 h0
      exact ⟨m, .inr ⟨m, hk, rfl, hm, fun j hj q => hmin j hj ⟨by omega, q⟩⟩⟩
    · simp only [not_exists, Classical.not_not] at h
      exact ⟨-1, .inl ⟨rfl, fun k hk q => q (h k hk)⟩⟩
  · exact ⟨0, rfl⟩
noncomputable def fstV (l : List Sup) (d : List Drw) (rs : List Rls) (x : Int) : Int := Classical.choose (fstIs_ex l d rs x)
theorem GivesFst.v {w w' : World} {l : List Sup} {d : List Drw} {rs : List Rls} {x : Int} {e : Ending} (h : GivesFst w l d rs x e w') : e = .returned (.int .i64 (fstV l d rs x)) ∧ Gr w w' := by
  obtain ⟨y, rfl, h1, h2⟩ := h
  have := Classical.choose_spec (fstIs_ex l d rs x)
  rw [show fstV l d rs x = y from fstIs_one this h1]
  exact ⟨rfl, h2⟩
theorem refFirst_any (l : List Sup) (r : Rls) (d : List Drw) (ps : List Wri) (rs : List Rls) (x : Int) (ao a1 a2 ap a3 : Option Addr) (cap c1 c2 cpl c3 : Nat) (w : World) (h : SlOf 5 RSup w ao l) (hf : Fit l.length) (h3 : SlOf 4 RDrw w a3 d) (f3 : Fit d.length) (fr : Fit rs.length) (hx : 0 ≤ x ∧ x ≤ 100)
    (hS : ∀ W, Gr w W → Calls Try.prog 15 #[.slice ao l.length cap, .agg #[.slice a1 r.on.length c1, .slice a2 r.level.length c2], .slice ap ps.length cpl] W (GivesRsE W rs x)) :
    Calls Try.prog 30 #[.slice ao l.length cap, .agg #[.slice a1 r.on.length c1, .slice a2 r.level.length c2], .slice ap ps.length cpl, .slice a3 d.length c3] w (GivesFst w l d rs x) := by
  have H := Lib.hid h
  have HD := Lib.hid h3
  have HS := Lib.hid hS
  have FR := fr
  unfold Fit at FR
  clear h h3 hS
  obtain ⟨W0, hW0⟩ : ∃ W0 : World, Hid (W0 = w.alloc (.cells #[.slice a1 r.on.length c1, .slice a2 r.level.length c2] 31)) := ⟨_, Lib.hid rfl⟩
  have G0 : Hid (Gr w W0) := Lib.hid (by rw [hW0.out]; exact (Gr.refl _).alloc _)
  go_enter Try.func30, Try.ntmps30
  go_wp2_with fail
  rw [← hW0.out]
  refine (HS.out W0 G0.out).mono ?_
  rintro e W1 ⟨as', cs, rfl, ks, ss, hg⟩
  have SS := Lib.hid ss
  have G1 := Lib.hid (G0.out.trans hg)
  clear hg ss hW0
  by_cases hx0 : x = 0
  · subst hx0
    have DR := Lib.hid (refDraws_any l d ao a3 cap c3 W1 (sups_gr H.out G1.out) hf (drws_gr HD.out G1.out) f3)
    by_cases hd : DrwsOk l d
    · have DD := Lib.hid hd
      rw [decide_eq_true hd] at DR
      clear hd
      go_wp2_with fail
      refine DR.out.mono ?_
      rintro e W2 ⟨rfl, hg2⟩
      have G2 := Lib.hid (G1.out.trans hg2)
      have S2 := Lib.hid (SlOf.gr RRls.mono SS.out hg2)
      clear hg2 DR G1 SS
      go_wp2_with fail
      go_loopw [30] (fun i wr => ∃ k : Nat, k ≤ rs.length ∧ i = .int .i64 k ∧ (∀ j (hj : j < rs.length), j < k → MeetsAll l rs[j] d) ∧ Gr w wr ∧ SlOf 2 RRls wr as' rs) (fun i _ => rs.length - (intOf i).toNat)
      case atStart => exact ⟨0, Nat.zero_le _, rfl, fun j _ h => absurd h (by omega), G2.out, S2.out⟩
      case round =>
        clear G2 S2
        obtain ⟨k, hk, rfl, hall, hg, hss⟩ := hrel
        have HA := Lib.hid hall
        have HG := Lib.hid hg
        have S3 := Lib.hid hss
        by_cases hlt : k < rs.length
        · obtain ⟨b, o, rfl, ⟨x1, k1, p1, _, f1, s1⟩, ⟨x2, k2', p2, _, f2, s2⟩⟩ := hss k hlt
          have k2 : (k : Int) < rs.length := by omega
          obtain ⟨W4, hW4⟩ : ∃ W4 : World, Hid (W4 = wr.alloc (.cells #[.slice x1 rs[k].on.length k1, .slice x2 rs[k].level.length k2'] 31)) := ⟨_, Lib.hid rfl⟩
          have G4 : Hid (Gr wr W4) := Lib.hid (by rw [hW4.out]; exact (Gr.refl _).alloc _)
          have ME := Lib.hid (refMeets_any l rs[k] d ao x1 x2 a3 cap k1 k2' c3 W4 (sups_gr H.out (hg.trans G4.out)) hf (s1.giB G4.out) (s2.giI G4.out) (drws_gr HD.out (hg.trans G4.out)) f1 f2 f3)
          have ph := has_of_cell p1
          clear hall hg hss s1 s2
          go_wp2_with fail
          rw [← hW4.out]
          refine ME.out.mono ?_
          rintro e W5 ⟨rfl, hg5⟩
          have G5 := Lib.hid (HG.out.trans (G4.out.trans hg5))
          have S5 := Lib.hid (SlOf.gr RRls.mono S3.out (G4.out.trans hg5))
          clear hg5 ME p1 p2 ph hW4
          by_cases hm : MeetsAll l rs[k] d
          · have MM := Lib.hid hm
            rw [decide_eq_true hm]
            clear hm
            go_wp2_with fail
            go_roundw
            case rel =>
              refine ⟨k + 1, by omega, by go_num, fun j hj hjk => ?_, G5.out, S5.out⟩
              by_cases e : j = k
              · subst e; exact MM.out
              · exact HA.out j hj (by omega)
            case measure => simp [intOf]; omega
          · have MM := Lib.hid hm
            rw [decide_eq_false hm]
            clear hm
            go_wp2_with fail
            go_ret
            refine ⟨k, rfl, ?_, G5.out⟩
            rw [FstIs, if_pos ⟨rfl, DD.out⟩]
            exact .inr ⟨k, hlt, rfl, MM.out, fun j hj q => q (HA.out j (by omega) hj)⟩
        · clear hall hg hss
          go_wp2_with fail
          go_ret
          refine ⟨-1, rfl, ?_, HG.out⟩
          rw [FstIs, if_pos ⟨rfl, DD.out⟩]
          exact .inl ⟨rfl, fun j hj q => q (HA.out j hj (by omega))⟩
    · have DD := Lib.hid hd
      rw [decide_eq_false hd] at DR
      clear hd
      go_wp2_with fail
      refine DR.out.mono ?_
      rintro e W2 ⟨rfl, hg2⟩
      have G2 := Lib.hid (G1.out.trans hg2)
      clear hg2
      go_wp2_with fail
      go_ret
      refine ⟨0, rfl, ?_, G2.out⟩
      rw [FstIs, if_neg (fun q => DD.out q.2)]
  · have hxb : (x != 0) = true := by simpa using hx0
    have HX := Lib.hid hx0
    clear hx0
    go_wp2_with fail
    go_ret
    refine ⟨0, rfl, ?_, G1.out⟩
    rw [FstIs, if_neg (fun q => HX.out q.1)]
theorem rxB {Q : Exit → Act → World → Prop} {s0 s1 s2 s3 s4 s5 s6 s7 s8 s9 s10 s11 s12 s13 s14 s15 s16 s17 s18 s19 s21 s23 s24 s25 s26 s27 s29 s30 s31 s32 s33 s34 s35 s36 s37 s38 s39 s40 s41 s42 s43 s44 s45 s46 s47 s48 s49 s50 s51 s52 s53 s54 s55 s56 s57 s58 s59 s60 s61 s62 s63 s64 s65 s66 s67 s68 s69 s70 s71 s72 s73 s74 s75 s76 s77 s78 s79 s80 s81 s82 s83 s84 s85 s86 s87 s88 s89 s90 s91 s92 s93 s94 s95 s96 s97 s98 s99 s100 s101 s102 s103 s104 s105 s106 s107 s108 s109 s110 s111 s112 s113 s114 s115 s116 s117 s118 s119 s120 s121 s122 s123 s124 s125 s126 s127 s128 s129 s130 s131 s132 s133 s134 s135 s136 s137 s138 s139 s140 s141 s142 s143 s144 s145 s146 s147 s148 s149 s150 s151 s152 s153 s154 s155 s156 s157 s158 s159 s160 s161 s162 s163 s164 s165 s166 s167 s168 s169 s170 s171 s172 s173 s174 s175 s176 s177 s178 s179 s180 s181 s182 s183 s184 s185 s186 s187 s188 s189 s190 s191 s195 s196 s197 s198 s199 s200 s201 s202 s203 s204 s205 s206 s207 s208 s209 s210 s211 s212 s213 s214 s215 s216 s217 s218 s219 s220 s221 s222 s223 s224 s225 s226 s227 s228 s229 s230 s231 s232 s233 s234 s235 s236 s237 s238 s239 s240 s241 s242 s243 s244 s245 s246 s247 s248 s249 s250 s251 s252 s253 s254 s255 s256 s257 s258 s259 s260 s261 s262 s263 s264 s265 s266 s267 s268 s269 s270 s271 s272 s273 s274 s275 s276 s277 s278 s279 s280 s281 s282 s283 : Value} {l : List Sup} {r : Rls} {z : List Drw} {ax az a1 a2 : Option Addr} {cx cz c1 c2 Y gz : Nat} {u3 u4 : Value} {W0 : World}
    (SX : SlOf 5 RSup W0 ax l) (fx : Fit l.length) (YB : Row W0 Y 56 [.slice a1 r.on.length c1, .slice a2 r.level.length c2, u3, u4]) (RA : RlA W0 a1 a2 c1 c2 r) (ZS : SlOf 4 RDrw W0 az z) (fz : Fit z.length)
    (Z : ∀ k, k < 3 → ∃ (a : Option Addr) (ps : List Wri) (c : Nat), W0.cell? ⟨gz, k, none⟩ = some (.slice a ps.length c) ∧ SlOf 3 RWri W0 a ps ∧ ps.length ≤ 1000)
    (h : ∀ (t10 t34 t35 t36 t37 t38 t39 t40 t41 t42 t43 t194 t195 t196 t197 t198 t199 t200 t201 t202 t203 t204 t205 t206 t207 t208 t209 t210 t211 t212 t213 t214 t215 t216 t217 t218 t219 t220 t221 t222 t223 t224 t225 t226 t227 t228 t229 t230 t231 t232 t233 t234 t235 t236 t237 t238 t239 t240 t241 t242 t243 t244 t245 t246 t247 t248 t249 t250 t251 t252 t253 t254 t255 t256 t257 t258 t259 t260 t261 t262 t263 t264 t265 t266 t267 t268 t269 t270 t271 t272 t273 t274 t275 t276 t277 t278 t279 : Value) (wx : World), Gr W0 wx → Q (.exit 6) { tmps := #[s0, s1, s2, s3, s4, s5, s6, s7, s8, s9, t10, s11, s12, s13, s14, s15, s16, s17, s18, s19, .slice ax l.length cx, s21, .pointer (some ⟨Y, 0, none⟩), s23, s24, s25, s26, s27, .slice az z.length cz, s29, s30, s31, s32, s33, t34, t35, t36, t37, t38, t39, t40, t41, t42, t43, s44, s45, s46, s47, s48, s49, s50, s51, s52, s53, s54, s55, s56, s57, s58, s59, s60, s61, s62, s63, s64, s65, s66, s67, s68, s69, s70, s71, s72, s73, s74, s75, s76, s77, s78, s79, s80, s81, s82, s83, s84, s85, s86, s87, s88, s89, s90, s91, s92, s93, s94, s95, s96, s97, s98, s99, s100, s101, s102, s103, s104, s105, s106, s107, s108, s109, s110, s111, s112, s113, s114, s115, s116, s117, s118, s119, s120, s121, s122, s123, s124, s125, s126, s127, s128, s129, s130, s131, s132, s133, s134, s135, s136, s137, s138, s139, s140, s141, s142, s143, s144, s145, s146, s147, s148, s149, s150, s151, s152, s153, s154, s155, s156, s157, s158, s159, s160, s161, s162, s163, s164, s165, s166, s167, s168, s169, s170, s171, s172, s173, s174, s175, s176, s177, s178, s179, s180, s181, s182, s183, s184, s185, s186, s187, s188, s189, s190, s191, .slice (some ⟨gz, 0, none⟩) 3 3, .int .i64 3, t194, t195, t196, t197, t198, t199, t200, t201, t202, t203, t204, t205, t206, t207, t208, t209, t210, t211, t212, t213, t214, t215, t216, t217, t218, t219, t220, t221, t222, t223, t224, t225, t226, t227, t228, t229, t230, t231, t232, t233, t234, t235, t236, t237, t238, t239, t240, t241, t242, t243, t244, t245, t246, t247, t248, t249, t250, t251, t252, t253, t254, t255, t256, t257, t258, t259, t260, t261, t262, t263, t264, t265, t266, t267, t268, t269, t270, t271, t272, t273, t274, t275, t276, t277, t278, t279, s280, s281, s282, s283], defers := [] } wx) :
    (codeIn 6 Try.f7).wp Try.prog Q { tmps := #[s0, s1, s2, s3, s4, s5, s6, s7, s8, s9, s10, s11, s12, s13, s14, s15, s16, s17, s18, s19, .slice ax l.length cx, s21, .pointer (some ⟨Y, 0, none⟩), s23, s24, s25, s26, s27, .slice az z.length cz, s29, s30, s31, s32, s33, s34, s35, s36, s37, s38, s39, s40, s41, s42, s43, s44, s45, s46, s47, s48, s49, s50, s51, s52, s53, s54, s55, s56, s57, s58, s59, s60, s61, s62, s63, s64, s65, s66, s67, s68, s69, s70, s71, s72, s73, s74, s75, s76, s77, s78, s79, s80, s81, s82, s83, s84, s85, s86, s87, s88, s89, s90, s91, s92, s93, s94, s95, s96, s97, s98, s99, s100, s101, s102, s103, s104, s105, s106, s107, s108, s109, s110, s111, s112, s113, s114, s115, s116, s117, s118, s119, s120, s121, s122, s123, s124, s125, s126, s127, s128, s129, s130, s131, s132, s133, s134, s135, s136, s137, s138, s139, s140, s141, s142, s143, s144, s145, s146, s147, s148, s149, s150, s151, s152, s153, s154, s155, s156, s157, s158, s159, s160, s161, s162, s163, s164, s165, s166, s167, s168, s169, s170, s171, s172, s173, s174, s175, s176, s177, s178, s179, s180, s181, s182, s183, s184, s185, s186, s187, s188, s189, s190, s191, .slice (some ⟨gz, 0, none⟩) 3 3, .int .i64 3, .int .i64 0, s195, s196, s197, s198, s199, s200, s201, s202, s203, s204, s205, s206, s207, s208, s209, s210, s211, s212, s213, s214, s215, s216, s217, s218, s219, s220, s221, s222, s223, s224, s225, s226, s227, s228, s229, s230, s231, s232, s233, s234, s235, s236, s237, s238, s239, s240, s241, s242, s243, s244, s245, s246, s247, s248, s249, s250, s251, s252, s253, s254, s255, s256, s257, s258, s259, s260, s261, s262, s263, s264, s265, s266, s267, s268, s269, s270, s271, s272, s273, s274, s275, s276, s277, s278, s279, s280, s281, s282, s283], defers := [] } W0 := by
  have HQ := PLift.up h
  clear h
  simp only [codeIn, Try.f7, codeOf, Option.bind_some, Option.getD_some, Nat.beq, cond_true, cond_false]
  have SX' := Lib.hid SX
  have YB' := Lib.hid YB
  have RA' := Lib.hid RA
  have ZS' := Lib.hid ZS
  have ZZ := Lib.hid Z
  clear SX YB RA ZS Z
  go_loopw [194] (fun s wi => ∃ j : Nat, j ≤ 3 ∧ s = .int .i64 j ∧ Gr W0 wi) (fun s _ => 3 - (intOf s).toNat)
  case atStart => exact ⟨0, Nat.zero_le _, rfl, Gr.refl _⟩
  case round =>
    obtain ⟨j, hj, rfl, hg⟩ := hrel
    have GG := Lib.hid hg
    clear hg
    by_cases hl : j < 3
    · have j3 : (j : Int) < 3 := by omega
      obtain ⟨aw, ps, cw, hc, hs, hn⟩ := ZZ.out j hl
      have hc' := cell_gr GG.out hc
      have hh := has_of_cell hc'
      have PS := Lib.hid hs
      have LL := Lib.hid (stL_len l r ps)
      have XB := Lib.hid (stE_small l r ps)
      have V1 := Lib.hid (fun W (hW : Gr W0 W) => proStatesG_any l r ps ax a1 a2 aw cx c1 c2 cw W (SX'.out.gr RSup.mono hW) fx (RA'.out.on.giB hW) (RA'.out.lv.giI hW) (PS.out.gr RWri.mono hW) RA'.out.k1 RA'.out.k2 RA'.out.f1 RA'.out.f2 hn)
      have V2 := Lib.hid (fun W (hW : Gr W0 W) => refStatesG_any l r ps ax a1 a2 aw cx c1 c2 cw W (SX'.out.gr RSup.mono hW) fx (RA'.out.on.giB hW) (RA'.out.lv.giI hW) (PS.out.gr RWri.mono hW) RA'.out.k1 RA'.out.k2 RA'.out.f1 RA'.out.f2 hn)
      obtain ⟨L, hL⟩ : ∃ L, stL l r ps = L := ⟨_, rfl⟩
      obtain ⟨x, hx⟩ : ∃ x, stE l r ps = x := ⟨_, rfl⟩
      rw [hL, hx] at V1 V2
      rw [hL] at LL
      rw [hx] at XB
      have FL : Hid (Fit L.length) := Lib.hid (by have := LL.out; unfold Fit; omega)
      have F1 := Lib.hid (fun W (hW : Gr W0 W) => (first_any l r z ps L x ax a1 a2 aw az cx c1 c2 cw cz W (SX'.out.gr RSup.mono hW) fx (ZS'.out.gr RDrw.mono hW) fz FL.out XB.out (fun W' hW' => V1.out W' (hW.trans hW'))).mono (fun e w' h => h.v))
      have F2 := Lib.hid (fun W (hW : Gr W0 W) => (refFirst_any l r z ps L x ax a1 a2 aw az cx c1 c2 cw cz W (SX'.out.gr RSup.mono hW) fx (ZS'.out.gr RDrw.mono hW) fz FL.out XB.out (fun W' hW' => V2.out W' (hW.trans hW'))).mono (fun e w' h => h.v))
      obtain ⟨y, hy⟩ : ∃ y, fstV l z L x = y := ⟨_, rfl⟩
      rw [hy] at F1 F2
      clear hL hx hy hc hs
      have lb : (x != x) = false := by simp
      have lb2 : (y != y) = false := by simp
      obtain ⟨y0, y1, _, _, yh⟩ := pairR (YB'.out.gr GG.out)
      go_wp2_with fail
      clear y0 y1 yh hc' hh
      refine (V1.out wr GG.out).mono ?_
      rintro e w2 ⟨s1, k1, rfl, _, hs1, hg2⟩
      have G2 := Lib.hid (GG.out.trans hg2)
      have S1 := Lib.hid hs1
      obtain ⟨y0, y1, _, _, yh⟩ := pairR (YB'.out.gr G2.out)
      clear hs1 hg2 V1
      go_wp2_with fail
      clear y0 y1 yh
      refine (V2.out w2 G2.out).mono ?_
      rintro e w3 ⟨s2, k2, rfl, _, hs2, hg3⟩
      have G3 := Lib.hid (G2.out.trans hg3)
      have S1' := Lib.hid (SlOf.gr RRls.mono S1.out hg3)
      have S2 := Lib.hid hs2
      have X1 := Lib.hid (fun W (hW : Gr w3 W) => sameAllE_any L s1 s2 k1 k2 W (SlOf.gr RRls.mono S1'.out hW) (SlOf.gr RRls.mono S2.out hW) FL.out)
      have X2 := Lib.hid (fun W (hW : Gr w3 W) => F1.out W (G3.out.trans hW))
      have X3 := Lib.hid (fun W (hW : Gr w3 W) => F2.out W (G3.out.trans hW))
      obtain ⟨y0, y1, _, _, yh⟩ := pairR (YB'.out.gr G3.out)
      clear hs2 hg3 V2 S1 F1 F2
      go_wp2_with fail
      refine wp_region_grows (by kernel_rfl) (by kernel_rfl) ?_
      repeat (go_big_quiet_step (first | (go_at_call 29; with_reducible exact calls_grows (X1.out _ (by repeat (first | with_reducible exact Gr.refl _ | with_reducible refine Gr.drewN _ ?_ | with_reducible refine Gr.xt _ _ ?_)))) | (go_at_call 22; with_reducible exact calls_grows (X2.out _ (by repeat (first | with_reducible exact Gr.refl _ | with_reducible refine Gr.drewN _ ?_ | with_reducible refine Gr.xt _ _ ?_)))) | (go_at_call 30; with_reducible exact calls_grows (X3.out _ (by repeat (first | with_reducible exact Gr.refl _ | with_reducible refine Gr.drewN _ ?_ | with_reducible refine Gr.xt _ _ ?_))))))
      refine wpQuiet_nil ?_
      rintro _ ⟨⟨O, d⟩, rfl⟩
      clear y0 y1 yh X1 X2 X3
      obtain ⟨w6, hw6⟩ : ∃ w6 : World, Hid (w6 = xt w3 O d) := ⟨_, Lib.hid rfl⟩
      have G6 : Hid (Gr W0 w6) := Lib.hid (by rw [hw6.out]; exact G3.out.xt _ _)
      show Exit.then _ _ _ _ (xt w3 O d)
      rw [← hw6.out]
      clear hw6 S1' S2 G3 G2
      go_wp2_with fail
      refine wp_code_eq (c := codeIn 8 Try.f7) (by kernel_rfl) (rxA (W0 := w6) (SX'.out.gr RSup.mono G6.out) fx (YB'.out.gr G6.out) (RA'.out.gr G6.out) (PS.out.gr RWri.mono G6.out) hn ?_)
      intro t10 t39 t40 t41 t42 t43 t238 t239 t240 t241 t242 t243 t244 t245 t246 t247 t248 t249 t250 t251 t252 t253 t254 t255 t256 t257 t258 t259 t260 t261 t262 t263 t264 t265 t266 t267 t268 t269 t270 t271 t272 t273 t274 t275 t276 t277 t278 wx hgx
      have GX := Lib.hid (G6.out.trans hgx)
      clear hgx
      go_wp2_with fail
      go_roundw
      case rel => exact ⟨j + 1, by omega, by simp, GX.out⟩
      case measure => simp [intOf]; omega
    · obtain rfl : j = 3 := by omega
      go_wp2_with fail
      exact HQ.down _ _ _ _ _ _ _ _ _ _ _ _ _ _ _ _ _ _ _ _ _ _ _ _ _ _ _ _ _ _ _ _ _ _ _ _ _ _ _ _ _ _ _ _ _ _ _ _ _ _ _ _ _ _ _ _ _ _ _ _ _ _ _ _ _ _ _ _ _ _ _ _ _ _ _ _ _ _ _ _ _ _ _ _ _ _ _ _ _ _ _ _ _ _ _ _ _ _ GG.out
end Go.Proofs.Ytoenkcojfogmmaa

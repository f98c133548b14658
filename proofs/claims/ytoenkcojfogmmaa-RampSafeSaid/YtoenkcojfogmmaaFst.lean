/- ramp.First, for whatever States gives (in part printed by wip/tools/idx.py). -/
import Derived.Test.YtoenkcojfogmmaaStA
set_option linter.unusedVariables false
set_option linter.unusedSimpArgs false
namespace Go.Proofs.Ytoenkcojfogmmaa
open Go.RowKit
open Classical

set_option maxHeartbeats 1000000 in
theorem indexFst_any (q0 q1 : Nat) (l : List Rls) (ao : Option Addr) (cap : Nat) (p : Rls → Prop) (w : World) (h : SlOf 2 RRls w ao l) (hf : Fit l.length) (hp : PredOn VRls 53 #[.pointer (some ⟨q0, 0, none⟩), .pointer (some ⟨q1, 0, none⟩)] l p w) :
    Calls Try.prog 52 #[.slice ao l.length cap, .func (.func 53) #[] #[.pointer (some ⟨q0, 0, none⟩), .pointer (some ⟨q1, 0, none⟩)]] w (GivesFirst p l w) := by
  unfold Fit at hf
  have H := Lib.hid h
  have HP := Lib.hid hp
  clear h hp
  go_enter Try.func52, Try.ntmps52
  go_wp2
  go_loopw [8] (fun i wr => ∃ k : Nat, k ≤ l.length ∧ i = .int .i64 k ∧ (∀ j (hj : j < k) (hjl : j < l.length), ¬ p l[j]) ∧ Gr w wr) (fun i _ => l.length - (intOf i).toNat)
  case atStart => exact ⟨0, Nat.zero_le _, rfl, fun j h => absurd h (by omega), Gr.refl _⟩
  case round =>
    obtain ⟨k, hk, rfl, hall, hg⟩ := hrel
    have HA := Lib.hid hall
    have HG := Lib.hid hg
    clear hall hg
    by_cases hlt : k < l.length
    · obtain ⟨b, o, rfl, ⟨a1, k1, c1, c1l, c1f, s1⟩, ⟨a2, k2, c2, c2l, c2f, s2⟩⟩ := rlss_gr H.out HG.out k hlt
      have hcall := HP.out wr (.agg #[.slice a1 l[k].on.length k1, .slice a2 l[k].level.length k2]) k hlt HG.out ⟨a1, a2, k1, k2, rfl, s1, s2, c1l, c1f, c2l, c2f⟩
      clear s1 s2 c1f c2f
      by_cases hq : p l[k]
      · rw [decide_eq_true hq] at hcall
        have Q := Lib.hid hq
        clear hq
        go_wp2_with fail
        refine hcall.mono ?_
        rintro e w' ⟨rfl, O, d, rfl⟩
        go_wp2_with fail
        go_ret
        exact ⟨_, rfl, .inr ⟨k, hlt, rfl, Q.out, fun j hj => HA.out j hj (by omega)⟩, HG.out.xt _ _⟩
      · rw [decide_eq_false hq] at hcall
        have Q := Lib.hid hq
        clear hq
        go_wp2_with fail
        refine hcall.mono ?_
        rintro e w' ⟨rfl, O, d, rfl⟩
        go_wp2_with fail
        go_roundw
        case rel =>
          refine ⟨k + 1, by omega, by go_num, fun j hj hjl => ?_, HG.out.xt _ _⟩
          by_cases e : j = k
          · subst e; exact Q.out
          · exact HA.out j (by omega) hjl
        case measure => simp [intOf]; omega
    · go_wp2
      go_ret
      exact ⟨_, rfl, .inl ⟨rfl, fun j hj => HA.out j (by omega) hj⟩, HG.out⟩


set_option maxHeartbeats 1000000 in
theorem first1_any (l : List Sup) (d : List Drw) (rs : List Rls) (q0 q1 : Nat) (ao a3 : Option Addr) (cap c3 : Nat) (w : World) (hc : w.cell? ⟨q0, 0, none⟩ = some (.slice ao l.length cap)) (hc1 : w.cell? ⟨q1, 0, none⟩ = some (.slice a3 d.length c3)) (h : SlOf 5 RSup w ao l) (hf : Fit l.length) (h3 : SlOf 4 RDrw w a3 d) (f3 : Fit d.length) :
    PredOn VRls 53 #[.pointer (some ⟨q0, 0, none⟩), .pointer (some ⟨q1, 0, none⟩)] rs (fun r => ¬ MeetsAll l r d) w := by
  rintro W v k hk hg ⟨a1, a2, c1, c2, rfl, s1, s2, _, f1, _, f2⟩
  have hc' := cell_gr hg hc
  have hh := has_of_cell hc'
  have hd' := cell_gr hg hc1
  have hh1 := has_of_cell hd'
  have H := Lib.hid (sups_gr h hg)
  have HD := Lib.hid (drws_gr h3 hg)
  have H1 := Lib.hid s1
  have H2 := Lib.hid s2
  clear hc hc1 hg h h3 s1 s2
  show Calls Try.prog 53 #[_, _, _] W _
  generalize rs[k] = r at *
  go_enter Try.func53, Try.ntmps53
  go_wp2_with fail
  refine (meets_any l r d ao a1 a2 a3 cap c1 c2 c3 _ (sups_gr H.out (by repeat (first | with_reducible exact Gr.refl _ | with_reducible refine Gr.alloc _ ?_ | with_reducible refine Gr.xt _ _ ?_ | with_reducible refine Gr.drew ?_))) hf (H1.out.giB (by repeat (first | with_reducible exact Gr.refl _ | with_reducible refine Gr.alloc _ ?_ | with_reducible refine Gr.xt _ _ ?_ | with_reducible refine Gr.drew ?_))) (H2.out.giI (by repeat (first | with_reducible exact Gr.refl _ | with_reducible refine Gr.alloc _ ?_ | with_reducible refine Gr.xt _ _ ?_ | with_reducible refine Gr.drew ?_))) (drws_gr HD.out (by repeat (first | with_reducible exact Gr.refl _ | with_reducible refine Gr.alloc _ ?_ | with_reducible refine Gr.xt _ _ ?_ | with_reducible refine Gr.drew ?_))) f1 f2 f3).mono ?_
  rintro e w' ⟨rfl, O, dd, rfl⟩
  go_wp2_with fail
  go_ret
  exact ⟨ret_bool (by by_cases q : MeetsAll l r d <;> simp [q]), (by repeat (first | with_reducible exact Gr.refl _ | with_reducible refine Gr.alloc _ ?_ | with_reducible refine Gr.xt _ _ ?_ | with_reducible refine Gr.drew ?_))⟩
/-- The call returns rails of a sequence and an error. -/
def GivesRsE (w : World) (rs : List Rls) (x : Int) (e : Ending) (w' : World) : Prop :=
  ∃ ao cap, e = .returned (.tuple #[.slice ao rs.length cap, .int .i64 x]) ∧ rs.length ≤ cap ∧ SlOf 2 RRls w' ao rs ∧ Gr w w'
theorem GivesRs.e {w : World} {rs : List Rls} {e : Ending} {w' : World} (h : GivesRs w rs e w') : GivesRsE w rs 0 e w' := h
/-- The first of the rails that do not meet the draws, if all is right. -/
def FstIs (l : List Sup) (d : List Drw) (rs : List Rls) (x y : Int) : Prop := if x = 0 ∧ DrwsOk l d then FirstOf (fun r => ¬ MeetsAll l r d) rs y else y = 0
def GivesFst (w : World) (l : List Sup) (d : List Drw) (rs : List Rls) (x : Int) (e : Ending) (w' : World) : Prop := ∃ y, e = .returned (.int .i64 y) ∧ FstIs l d rs x y ∧ Gr w w'

set_option maxHeartbeats 1000000 in
theorem first_any (l : List Sup) (r : Rls) (d : List Drw) (ps : List Wri) (rs : List Rls) (x : Int) (ao a1 a2 ap a3 : Option Addr) (cap c1 c2 cpl c3 : Nat) (w : World) (h : SlOf 5 RSup w ao l) (hf : Fit l.length) (h3 : SlOf 4 RDrw w a3 d) (f3 : Fit d.length) (fr : Fit rs.length) (hx : 0 ≤ x ∧ x ≤ 100)
    (hS : ∀ W, Gr w W → Calls Try.prog 21 #[.slice ao l.length cap, .agg #[.slice a1 r.on.length c1, .slice a2 r.level.length c2], .slice ap ps.length cpl] W (GivesRsE W rs x)) :
    Calls Try.prog 22 #[.slice ao l.length cap, .agg #[.slice a1 r.on.length c1, .slice a2 r.level.length c2], .slice ap ps.length cpl, .slice a3 d.length c3] w (GivesFst w l d rs x) := by
  have H := Lib.hid h
  have HD := Lib.hid h3
  have HS := Lib.hid hS
  obtain ⟨x0, x1⟩ := hx
  clear h h3 hS
  go_enter Try.func22, Try.ntmps22
  go_wp2_with fail
  refine (HS.out _ (by repeat (first | with_reducible exact Gr.refl _ | with_reducible refine Gr.alloc _ ?_ | with_reducible refine Gr.xt _ _ ?_ | with_reducible refine Gr.drew ?_))).mono ?_
  rintro e W1 ⟨as', cs, rfl, ks, ss, hg⟩
  have SS := Lib.hid ss
  have G1 : Hid (Gr w W1) := Lib.hid (Gr.trans (by repeat (first | with_reducible exact Gr.refl _ | with_reducible refine Gr.alloc _ ?_ | with_reducible refine Gr.xt _ _ ?_ | with_reducible refine Gr.drew ?_)) hg)
  have e0 : W1.cell? ⟨w.heap.size, 0, none⟩ = some (.slice ao l.length cap) := cell_gr hg (by simp [go_sem])
  have e1 : W1.cell? ⟨w.heap.size + 2, 0, none⟩ = some (.slice a3 d.length c3) := cell_gr hg (by simp [go_sem])
  have e0h := has_of_cell e0
  have e1h := has_of_cell e1
  clear hg ss
  by_cases hx : x = 0
  · subst hx
    by_cases hd : DrwsOk l d
    · have DD := Lib.hid hd
      clear hd
      go_wp2_with fail
      refine (draws_any l d ao a3 cap c3 _ (sups_gr H.out (G1.out.trans (by repeat (first | with_reducible exact Gr.refl _ | with_reducible refine Gr.alloc _ ?_ | with_reducible refine Gr.xt _ _ ?_ | with_reducible refine Gr.drew ?_)))) hf (drws_gr HD.out (G1.out.trans (by repeat (first | with_reducible exact Gr.refl _ | with_reducible refine Gr.alloc _ ?_ | with_reducible refine Gr.xt _ _ ?_ | with_reducible refine Gr.drew ?_)))) f3).mono ?_
      rw [decide_eq_true DD.out]
      rintro e w' ⟨rfl, O, dd, rfl⟩
      go_wp2_with fail
      refine (indexFst_any w.heap.size (w.heap.size + 2) rs as' cs (fun r => ¬ MeetsAll l r d) _ (SS.out.gr RRls.mono (by repeat (first | with_reducible exact Gr.refl _ | with_reducible refine Gr.alloc _ ?_ | with_reducible refine Gr.xt _ _ ?_ | with_reducible refine Gr.drew ?_))) fr (first1_any l d rs _ _ ao a3 cap c3 _ (by simp [go_sem, e0, e0h]) (by simp [go_sem, e1, e1h]) (sups_gr H.out (G1.out.trans (by repeat (first | with_reducible exact Gr.refl _ | with_reducible refine Gr.alloc _ ?_ | with_reducible refine Gr.xt _ _ ?_ | with_reducible refine Gr.drew ?_)))) hf (drws_gr HD.out (G1.out.trans (by repeat (first | with_reducible exact Gr.refl _ | with_reducible refine Gr.alloc _ ?_ | with_reducible refine Gr.xt _ _ ?_ | with_reducible refine Gr.drew ?_)))) f3)).mono ?_
      rintro e w' ⟨y, rfl, hy, hg⟩
      have HY := Lib.hid hy
      have HG := Lib.hid hg
      clear hy hg
      go_wp2_with fail
      go_ret
      refine ⟨y, rfl, ?_, G1.out.trans (Gr.trans (by repeat (first | with_reducible exact Gr.refl _ | with_reducible refine Gr.alloc _ ?_ | with_reducible refine Gr.xt _ _ ?_ | with_reducible refine Gr.drew ?_)) HG.out)⟩
      rw [FstIs, if_pos ⟨rfl, DD.out⟩]
      exact HY.out
    · have DD := Lib.hid hd
      clear hd
      go_wp2_with fail
      refine (draws_any l d ao a3 cap c3 _ (sups_gr H.out (G1.out.trans (by repeat (first | with_reducible exact Gr.refl _ | with_reducible refine Gr.alloc _ ?_ | with_reducible refine Gr.xt _ _ ?_ | with_reducible refine Gr.drew ?_)))) hf (drws_gr HD.out (G1.out.trans (by repeat (first | with_reducible exact Gr.refl _ | with_reducible refine Gr.alloc _ ?_ | with_reducible refine Gr.xt _ _ ?_ | with_reducible refine Gr.drew ?_)))) f3).mono ?_
      rw [decide_eq_false DD.out]
      rintro e w' ⟨rfl, O, dd, rfl⟩
      go_wp2_with fail
      go_ret
      refine ⟨0, rfl, ?_, G1.out.trans (by repeat (first | with_reducible exact Gr.refl _ | with_reducible refine Gr.alloc _ ?_ | with_reducible refine Gr.xt _ _ ?_ | with_reducible refine Gr.drew ?_))⟩
      rw [FstIs, if_neg (fun q => DD.out q.2)]
  · have hxb : (x != 0) = true := by simpa using hx
    have HX := Lib.hid hx
    clear hx
    go_wp2_with fail
    go_ret
    refine ⟨0, rfl, ?_, G1.out⟩
    rw [FstIs, if_neg (fun q => HX.out q.1)]
end Go.Proofs.Ytoenkcojfogmmaa

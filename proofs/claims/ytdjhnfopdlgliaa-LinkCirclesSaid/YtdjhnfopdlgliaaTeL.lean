/- label.Phandle. -/
import Derived.Test.YtdjhnfopdlgliaaTeJ
set_option linter.unusedVariables false
set_option linter.unusedSimpArgs false
namespace Go.Proofs.Ytdjhnfopdlgliaa
open Go.RowKit
open Classical

theorem eqPrp (p q : Prp) (w : World) : (binOp .eql 29 (.agg #[.string (bs p.name), .string (bs p.val)]) (.agg #[.string (bs q.name), .string (bs q.val)])).run Try.prog w = .ok (.bool (p == q)) w := by
  have e : (p == q) = (p.name == q.name && p.val == q.val) := by
    rw [Bool.eq_iff_iff]; simp; constructor
    · rintro rfl; exact ⟨rfl, rfl⟩
    · rintro ⟨h1, h2⟩; cases p; cases q; simp_all
  rw [e]
  have hs := Try.stoodInHeld29
  have hu := Try.underlying29
  have hz := Try.underlying9
  simp [go_sem, hs, hu, hz]
  by_cases h1 : p.name = q.name <;> by_cases h2 : p.val = q.val <;> simp [h1, h2]
set_option maxRecDepth 100000 in
set_option maxHeartbeats 4000000 in
theorem idxP_any (ps : List Prp) (p : Prp) (a : Option Addr) (cap : Nat) (w : World) (h : SlOf 2 RPrp w a ps) (hf : ps.length ≤ 1000000) :
    Calls Try.prog 47 #[.slice a ps.length cap, .agg #[.string (bs p.name), .string (bs p.val)]] w fun e w' => ∃ i : Int, e = .returned (.int .i64 i) ∧ (decide (0 ≤ i) = ps.contains p) ∧ Gr w w' := by
  have H := Lib.hid h
  clear h
  go_enter Try.func47, Try.ntmps47
  go_wp2_with fail
  have RB := Lib.hid (Row.new w #[.string (bs p.name), .string (bs p.val)] 29)
  obtain ⟨W1, hW1⟩ : ∃ W : World, Hid (W = w.alloc (.cells #[.string (bs p.name), .string (bs p.val)] 29)) := ⟨_, Lib.hid rfl⟩
  rw [← hW1.out] at RB ⊢
  have G1 : Hid (Gr w W1) := Lib.hid (by rw [hW1.out]; exact (Gr.refl _).alloc _)
  obtain ⟨P0, hP0⟩ : ∃ N : Nat, Hid (w.heap.size = N) := ⟨_, Lib.hid rfl⟩
  rw [hP0.out] at RB ⊢
  clear hW1
  go_loopw [8] (fun i wr => ∃ k : Nat, k ≤ ps.length ∧ i = .int .i64 k ∧ (∀ j (hj : j < k) (hjl : j < ps.length), ¬ ps[j] = p) ∧ Row wr P0 29 [.string (bs p.name), .string (bs p.val)] ∧ Gr w wr) (fun i _ => ps.length - (intOf i).toNat)
  case atStart => exact ⟨0, Nat.zero_le _, rfl, fun j h => absurd h (by omega), RB.out, G1.out⟩
  case round =>
    clear RB G1
    obtain ⟨k, hk, rfl, hall, hrb, hg⟩ := hrel
    have HA := Lib.hid hall
    have HG := Lib.hid hg
    have HRB := Lib.hid hrb
    have b0 : wr.cell? ⟨P0, 0, none⟩ = some (.string (bs p.name)) := hrb.cell 0 (by simp)
    have b1 : wr.cell? ⟨P0, 1, none⟩ = some (.string (bs p.val)) := hrb.cell 1 (by simp)
    clear hall hg hrb
    by_cases hlt : k < ps.length
    · obtain ⟨b, o, rfl, c0, c1, l0, l1⟩ := prps_at (H.out.gr RPrp.mono HG.out) k hlt
      have hh := has_of_cell c0
      have hh2 := has_of_cell b0
      have hi1 : decide ((k : Int) < ps.length) = true := by simp; omega
      have heq := fun W => eqPrp p ps[k] W
      by_cases hq : ps[k] = p
      · have hb : (p == ps[k]) = true := by simp [hq]
        simp only [hb] at heq
        have Q := Lib.hid hq
        clear hq hb
        go_wp2_with fail
        go_quiet (fail)
        go_wp2_with fail
        go_ret
        refine ⟨_, rfl, ?_, HG.out.drewN _⟩
        rw [show decide (0 ≤ (k : Int)) = true by simp, eq_comm, List.contains_iff_mem]
        rw [← Q.out]; exact List.getElem_mem hlt
      · have hb : (p == ps[k]) = false := by rw [beq_eq_false_iff_ne]; exact fun e => hq e.symm
        simp only [hb] at heq
        have Q := Lib.hid hq
        clear hq hb
        go_wp2_with fail
        go_quiet (fail)
        go_wp2_with fail
        go_roundw
        case rel =>
          refine ⟨k + 1, by omega, by go_num, fun j hj hjl => ?_, HRB.out.drewN _, HG.out.drewN _⟩
          by_cases e : j = k
          · subst e; exact Q.out
          · exact HA.out j (by omega) hjl
        case measure => simp [intOf]; omega
    · go_wp2_with fail
      go_ret
      refine ⟨_, rfl, ?_, HG.out⟩
      rw [eq_comm, show decide ((0:Int) ≤ -1) = false by simp, ← Bool.not_eq_true, List.contains_iff_mem]
      intro hx
      obtain ⟨j, hj, e⟩ := List.getElem_of_mem hx
      exact HA.out j (by omega) hj e
theorem conP_any (ps : List Prp) (p : Prp) (a : Option Addr) (cap : Nat) (w : World) (h : SlOf 2 RPrp w a ps) (hf : ps.length ≤ 1000000) :
    Calls Try.prog 37 #[.slice a ps.length cap, .agg #[.string (bs p.name), .string (bs p.val)]] w (Grows w (.bool (ps.contains p))) := by
  have H := Lib.hid h
  clear h
  go_enter Try.func37, Try.ntmps37
  go_wp2_with fail
  refine (idxP_any ps p a cap _ (H.out.gr RPrp.mono ((Gr.refl _).alloc _)) hf).mono ?_
  rintro e w' ⟨x, rfl, hx, O, d, rfl⟩
  have X := Lib.hid hx
  clear hx
  go_wp2_with fail
  go_ret
  exact ⟨ret_bool X.out, ((Gr.refl _).alloc _).xt _ _⟩
set_option maxRecDepth 100000 in
set_option maxHeartbeats 4000000 in
theorem ph1_any (n : Nod) (a : Option Addr) (cap p q0 : Nat) (w : World) (h : SlOf 2 RPrp w a n.props) (hf : n.props.length ≤ 1000000) (hp : p < 4294967296) (hq : w.cell? ⟨q0, 0, none⟩ = some (.int .i64 p)) :
    Calls Try.prog 36 #[.agg #[.int .i64 n.parent, .string (bs n.name), .slice a n.props.length cap], .pointer (some ⟨q0, 0, none⟩)] w (Grows w (.bool (n.props.contains ⟨phS, cell4 p⟩))) := by
  have H := Lib.hid h
  have hh := has_of_cell hq
  clear h
  go_enter Try.func36, Try.ntmps36
  go_wp2_with fail
  refine wp_region_grows (by kernel_rfl) (by kernel_rfl) ?_
  repeat (go_big_quiet_step (first | (go_at_call 38; exact calls_grows (word4_any _ _ hp)) | (go_at_call 37; exact calls_grows (conP_any n.props ⟨phS, cell4 p⟩ a cap _ (H.out.gr RPrp.mono (by repeat (first | with_reducible exact Gr.refl _ | with_reducible refine Gr.xt _ _ ?_ | with_reducible refine Gr.alloc _ ?_))) hf))))
  refine wpQuiet_nil ?_
  rintro _ ⟨⟨O, d9⟩, rfl⟩
  go_wp2_with fail
  go_ret
  exact ⟨rfl, ((Gr.refl _).alloc _).xt _ _⟩
def FirstAt (o : Option Nat) (i : Int) : Prop := match o with | none => i = -1 | some k => i = k
set_option maxRecDepth 100000 in
set_option maxHeartbeats 4000000 in
theorem idxNod_any (ts : Tr) (a : Option Addr) (cap p q0 : Nat) (w : World) (h : SlOf 3 RNod w a ts) (hf : ts.length ≤ 1000000) (hb : ∀ n ∈ ts, n.props.length ≤ 1000000) (hp : p < 4294967296) (hq : w.cell? ⟨q0, 0, none⟩ = some (.int .i64 p)) :
    Calls Try.prog 35 #[.slice a ts.length cap, .func (.func 36) #[] #[.pointer (some ⟨q0, 0, none⟩)]] w fun e w' => ∃ i : Int, e = .returned (.int .i64 i) ∧ FirstAt (ts.findIdx? (fun n => n.props.contains ⟨phS, cell4 p⟩)) i ∧ Gr w w' := by
  have H := Lib.hid h
  have HB := Lib.hid hb
  have HQ := Lib.hid hq
  clear h hb hq
  go_enter Try.func35, Try.ntmps35
  go_wp2_with fail
  go_loopw [8] (fun i wr => ∃ k : Nat, k ≤ ts.length ∧ i = .int .i64 k ∧ (∀ j (hj : j < k) (hjl : j < ts.length), ts[j].props.contains ⟨phS, cell4 p⟩ = false) ∧ Gr w wr) (fun i _ => ts.length - (intOf i).toNat)
  case atStart => exact ⟨0, Nat.zero_le _, rfl, fun j h => absurd h (by omega), Gr.refl _⟩
  case round =>
    obtain ⟨k, hk, rfl, hall, hg⟩ := hrel
    have HA := Lib.hid hall
    have HG := Lib.hid hg
    clear hall hg
    by_cases hlt : k < ts.length
    · obtain ⟨b, o, pa, pc, rfl, c0, c1, c2, hps, hpf, hw, hnl⟩ := nods_at (H.out.gr RNod.mono HG.out) k hlt
      have hbk := HB.out _ (List.getElem_mem hlt)
      obtain ⟨n, hn⟩ : ∃ n, n = ts[k] := ⟨_, rfl⟩
      have HN := Lib.hid hn
      rw [← hn] at c0 c1 c2 hps hbk
      have HPS := Lib.hid hps
      clear hps hpf hw hnl hn
      have hh := has_of_cell c0
      have hc := ph1_any n pa pc p q0 wr HPS.out hbk hp (cell_gr HG.out HQ.out)
      have HC := Lib.hid hc
      clear hc
      by_cases hv : n.props.contains ⟨phS, cell4 p⟩ = true
      · rw [hv] at HC
        have V : Hid (ts.findIdx? (fun n => n.props.contains ⟨phS, cell4 p⟩) = some k) := Lib.hid (by
          rw [List.findIdx?_eq_some_iff_getElem]
          exact ⟨hlt, by rw [← HN.out]; exact hv, fun j hj => by rw [HA.out j hj (by omega)]; simp⟩)
        clear hv
        go_wp2_with (go_at_call 36; refine HC.out.mono ?_; rintro e w' ⟨rfl, O, d, rfl⟩)
        go_ret
        exact ⟨_, rfl, by rw [V.out]; rfl, HG.out.xt _ _⟩
      · rw [Bool.not_eq_true] at hv
        rw [hv] at HC
        have V := Lib.hid hv
        clear hv
        go_wp2_with (go_at_call 36; refine HC.out.mono ?_; rintro e w' ⟨rfl, O, d, rfl⟩)
        go_roundw
        case rel =>
          refine ⟨k + 1, by omega, by go_num, fun j hj hjl => ?_, HG.out.xt _ _⟩
          by_cases e : j = k
          · subst e; rw [← HN.out]; exact V.out
          · exact HA.out j (by omega) hjl
        case measure => simp [intOf]; omega
    · have V : Hid (ts.findIdx? (fun n => n.props.contains ⟨phS, cell4 p⟩) = none) := Lib.hid (by
        rw [List.findIdx?_eq_none_iff]
        intro x hx
        obtain ⟨j, hj, rfl⟩ := List.getElem_of_mem hx
        exact HA.out j (by omega) hj)
      go_wp2_with fail
      go_ret
      exact ⟨_, rfl, by rw [V.out]; rfl, HG.out⟩
end Go.Proofs.Ytdjhnfopdlgliaa

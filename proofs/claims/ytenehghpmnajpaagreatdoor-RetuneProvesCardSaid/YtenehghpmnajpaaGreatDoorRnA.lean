/- Contracts of the reference's number, count and begin, where clocks, limits and settings are right. -/
import Derived.Test.YtenehghpmnajpaaGreatDoorKt
set_option linter.unusedVariables false
set_option linter.unusedSimpArgs false
namespace Go.Proofs.YtenehghpmnajpaaGreatDoor
open Go.RowKit
open Classical

set_option maxRecDepth 100000 in
set_option maxHeartbeats 1000000 in
theorem refNumber_any (l : List Clk) (s : List Int) (al aS : Option Addr) (cl cs : Nat) (w : World) (h : SlOf 5 RClk w al l) (hs : SlOf 1 RI w aS s) (hc : cchk l = 0) (hset : SetOk l s) :
    Calls Tryz.prog 91 #[.slice al l.length cl, .slice aS s.length cs] w (Grows w (.int .i64 (num l s))) := by
  obtain ⟨nb, _, _, _⟩ := cchk_zero hc
  have hl := small_len nb
  have hsl : s.length = l.length := hset.1
  have NB := Lib.hid nb
  have H := Lib.hid h
  have HS := Lib.hid hs
  have HC := Lib.hid hc
  have HT := Lib.hid hset
  clear h hs hc hset nb
  go_enter Tryz.func91, Tryz.ntmps91
  go_wp2_with fail
  go_loopw [5, 10] (fun n i wr => ∃ k : Nat, k ≤ l.length ∧ i = .int .i64 k ∧ n = .int .i64 (numU (kOf l) (sOf s) k) ∧ Gr w wr) (fun _ i _ => l.length - (intOf i).toNat)
  case atStart => exact ⟨0, Nat.zero_le _, rfl, rfl, Gr.refl _⟩
  case round =>
    obtain ⟨k, hk, rfl, rfl, hg⟩ := hrel
    have HG := Lib.hid hg
    by_cases hlt2 : k < l.length
    · have hlt : k < s.length := by omega
      have hx := numU_small HC.out HT.out (j := k) (by omega)
      have hx1 := numU_small HC.out HT.out (j := k + 1) (by omega)
      simp only [numU, sOf_at hlt, kOf_at hlt2] at hx1
      obtain ⟨x, ex⟩ : ∃ x, numU (kOf l) (sOf s) k = x := ⟨_, rfl⟩
      have hstep : Hid (numU (kOf l) (sOf s) (k + 1) = x * (l[k].choices.length : Int) + s[k]) := Lib.hid (by simp only [numU, sOf_at hlt, kOf_at hlt2, ex])
      rw [ex] at hx hx1 ⊢
      have hset := HT.out.2 k hlt2 hlt
      obtain ⟨fp, fc⟩ := small_at NB.out hlt2
      have hm : 0 ≤ x * (l[k].choices.length : Int) := Int.mul_nonneg hx.1 (by omega)
      have hm1 : x * (l[k].choices.length : Int) ≤ 4096 := by omega
      obtain ⟨bs, os, rfl, ⟨q1, _⟩⟩ := (HS.out.giI hg).one k hlt
      obtain ⟨b, o, rfl, ⟨d0, _⟩, ⟨ap, cp, d1, _⟩, ⟨ac, cc, d2, d2l, d2f, _⟩, ⟨d3, _⟩, ⟨d4, _⟩⟩ := clks_gr H.out hg k hlt2
      unfold Fit at d2f
      have k2 : (k : Int) < l.length := by omega
      have k3 : (k : Int) < s.length := by omega
      have qh := has_of_cell q1
      have dh := has_of_cell d0
      clear ex hg
      go_wp2_with fail
      go_quiet (fail)
      go_wp2_with fail
      go_roundw
      case rel => exact ⟨k + 1, by omega, by go_num, by rw [hstep.out], (HG.out.alloc _).drewN _⟩
      case measure => simp [intOf]; omega
    · obtain rfl : k = l.length := by omega
      clear hg
      go_wp2_with fail
      go_ret
      exact ⟨rfl, HG.out⟩
set_option maxRecDepth 100000 in
set_option maxHeartbeats 1000000 in
theorem refCount_any (l : List Clk) (al : Option Addr) (cl : Nat) (w : World) (h : SlOf 5 RClk w al l) (hc : cchk l = 0) :
    Calls Tryz.prog 90 #[.slice al l.length cl] w (Grows w (.int .i64 (prodC l : Nat))) := by
  obtain ⟨nb, ok, pr, fs⟩ := cchk_zero hc
  have hl := small_len nb
  have NB := Lib.hid nb
  have H := Lib.hid h
  have PR := Lib.hid pr
  have TK : Hid (∀ k, prodC (l.take k) ≤ prodC l) := Lib.hid (fun k => prodC_take_le (allOk_cho ok) k)
  clear h hc nb ok pr fs
  go_enter Tryz.func90, Tryz.ntmps90
  go_wp2_with fail
  go_loopw [3, 8] (fun n i wr => ∃ k : Nat, k ≤ l.length ∧ i = .int .i64 k ∧ n = .int .i64 (prodC (l.take k) : Nat) ∧ Gr w wr) (fun _ i _ => l.length - (intOf i).toNat)
  case atStart => exact ⟨0, Nat.zero_le _, rfl, rfl, Gr.refl _⟩
  case round =>
    obtain ⟨k, hk, rfl, rfl, hg⟩ := hrel
    have HG := Lib.hid hg
    by_cases hlt2 : k < l.length
    · have h1 := TK.out k
      have h2 := TK.out (k + 1)
      have h3 := PR.out
      have hstep := prodC_take l k hlt2
      obtain ⟨x, ex⟩ : ∃ x, prodC (l.take k) = x := ⟨_, rfl⟩
      rw [ex] at h1 hstep ⊢
      rw [hstep] at h2
      have HST := Lib.hid hstep
      have hm1 : ((x * l[k].choices.length : Nat) : Int) ≤ 4096 := by omega
      have hm0 : (0 : Int) ≤ ((x * l[k].choices.length : Nat) : Int) := by omega
      rw [Int.natCast_mul] at hm0 hm1
      have hx4 : x ≤ 4096 := by omega
      obtain ⟨fp, fc⟩ := small_at NB.out hlt2
      obtain ⟨b, o, rfl, ⟨d0, _⟩, ⟨ap, cp, d1, _⟩, ⟨ac, cc, d2, d2l, d2f, _⟩, ⟨d3, _⟩, ⟨d4, _⟩⟩ := clks_gr H.out hg k hlt2
      unfold Fit at d2f
      have k2 : (k : Int) < l.length := by omega
      have dh := has_of_cell d0
      clear ex hg hstep h1 h2 h3
      go_wp2_with fail
      go_roundw
      case rel => exact ⟨k + 1, by omega, by go_num, by rw [HST.out, Int.natCast_mul], HG.out.alloc _⟩
      case measure => simp [intOf]; omega
    · obtain rfl : k = l.length := by omega
      clear hg
      go_wp2_with fail
      go_ret
      exact ⟨by rw [List.take_length]; rfl, HG.out⟩
set_option maxRecDepth 100000 in
set_option maxHeartbeats 1000000 in
theorem refBegin_any (l : List Clk) (ms : List Lmt) (f t : List Int) (al am af at' : Option Addr) (cl cm cf ct : Nat) (w : World) (henv : Env w l ms al am) (hf : SetOk l f) (ht : SetOk l t) (sf : SlOf 1 RI w af f) (st : SlOf 1 RI w at' t) (cf' : calS l ms f = true) (ct' : calS l ms t = true) :
    Calls Tryz.prog 89 #[.slice al l.length cl, .slice af f.length cf, .slice at' t.length ct, .slice am ms.length cm] w (Grows w (.int .i64 0)) := by
  have hnb := small_len (cchk_zero henv.chk).1
  have S0 : Hid (∀ W, Gr w W → Calls Tryz.prog 14 #[.slice al l.length cl] W (Grows W (.int .i64 0))) := Lib.hid fun W hW => by
    have := refCheck_any l al cl W (clks_gr henv.clks hW) (by unfold Fit; omega)
    rwa [henv.chk] at this
  have S1 := Lib.hid (fun W (hW : Gr w W) => refSetting_ok l f al af cl cf W (clks_gr henv.clks hW) (sf.giI hW) henv.chk hf)
  have S2 := Lib.hid (fun W (hW : Gr w W) => refSetting_ok l t al at' cl ct W (clks_gr henv.clks hW) (st.giI hW) henv.chk ht)
  have S3 := Lib.hid (fun W (hW : Gr w W) => refLimits_ok l ms al am cl cm W (clks_gr henv.clks hW) (lmts_gr henv.lmts hW) henv.chk henv.lims)
  have S4 := Lib.hid (fun W (hW : Gr w W) => refCalm1_any l ms f al af am cl cf cm W (clks_gr henv.clks hW) (sf.giI hW) (lmts_gr henv.lmts hW) henv.chk hf henv.lims)
  have S5 := Lib.hid (fun W (hW : Gr w W) => refCalm1_any l ms t al at' am cl ct cm W (clks_gr henv.clks hW) (st.giI hW) (lmts_gr henv.lmts hW) henv.chk ht henv.lims)
  rw [cf'] at S4
  rw [ct'] at S5
  clear henv hf ht sf st cf' ct'
  go_enter Tryz.func89, Tryz.ntmps89
  go_wp2_with fail
  refine (S0.out _ (Gr.refl _)).mono ?_
  rintro e w0 ⟨rfl, hg0⟩
  have G0 := Lib.hid hg0
  clear hg0
  go_wp2_with fail
  refine (S3.out _ G0.out).mono ?_
  rintro e w1 ⟨rfl, hg1⟩
  have G1 := Lib.hid (G0.out.trans hg1)
  clear hg1
  go_wp2_with fail
  refine (S1.out _ G1.out).mono ?_
  rintro e w2 ⟨rfl, hg2⟩
  have G2 := Lib.hid (G1.out.trans hg2)
  clear hg2
  go_wp2_with fail
  refine (S2.out _ G2.out).mono ?_
  rintro e w3 ⟨rfl, hg3⟩
  have G3 := Lib.hid (G2.out.trans hg3)
  clear hg3
  go_wp2_with fail
  refine (S4.out _ G3.out).mono ?_
  rintro e w4 ⟨rfl, hg4⟩
  have G4 := Lib.hid (G3.out.trans hg4)
  clear hg4
  go_wp2_with fail
  refine (S5.out _ G4.out).mono ?_
  rintro e w5 ⟨rfl, hg5⟩
  have G5 := Lib.hid (G4.out.trans hg5)
  clear hg5
  go_wp2_with fail
  go_ret
  exact ⟨rfl, G5.out⟩
end Go.Proofs.YtenehghpmnajpaaGreatDoor

/- link.Circle. -/
import Derived.Test.YtdjhnfopdlgliaaTfC
set_option linter.unusedVariables false
set_option linter.unusedSimpArgs false
namespace Go.Proofs.Ytdjhnfopdlgliaa
open Go.RowKit
open Classical

theorem bestT_snoc (gs : List (List Int)) (m : Nat) : (List.range (m + 1)).foldl (bestF gs) [] = bestF gs ((List.range m).foldl (bestF gs) []) m := by
  rw [List.range_succ, List.foldl_append]; rfl
theorem circF_len (gs : List (List Int)) (d : List Nat) (first : Nat) : ∀ (f at' : Nat) (out : List Int), (circF gs d first f at' out).length ≤ out.length + f
  | 0, _, out => Nat.le_refl _
  | f + 1, at', out => by
    rw [circF]
    split
    · split
      · have := circF_len gs d first f (Int.toNat ‹Int›) (out ++ [‹Int›])
        rw [List.length_append] at this
        simp only [List.length_cons, List.length_nil] at this
        omega
      · omega
    · omega
theorem circT_len (gs : List (List Int)) (first : Nat) : (circT gs first).length ≤ gs.length + 1 := by
  unfold circT
  split
  · simp
  · have := circF_len gs (distT gs first) first gs.length first [(first : Int)]
    simp only [List.length_cons, List.length_nil] at this
    omega
set_option maxRecDepth 100000 in
set_option maxHeartbeats 8000000 in
theorem circleT_any (ts : Tr) (a : Option Addr) (cap : Nat) (pn cn : St) (w : World) (h : SlOf 3 RNod w a ts) (hc : chkT ts = 0) :
    Calls Try.prog 8 #[.agg #[.slice a ts.length cap], .string (bs pn), .string (bs cn)] w (GivesI w (circleT ts pn cn)) := by
  have H := Lib.hid h
  have C := Lib.hid hc
  have h120 := (good_of hc).len.2
  clear h hc
  go_enter Try.func8, Try.ntmps8
  go_wp2_with fail
  (try go_step3)
  (try go_wp2_with fail)
  refine (graph_any ts a cap pn cn _ (H.out.gr RNod.mono ((Gr.refl _).alloc _)) C.out).mono ?_
  intro e w1 hgv
  cases hz : graphT ts pn cn with
  | error er =>
    rw [hz] at hgv
    have er2 : Hid (circleT ts pn cn = .error er) := Lib.hid (by unfold circleT; rw [hz])
    have eb : (er != 0) = true := by rw [bne_iff_ne]; have := graphT_err hz; omega
    obtain ⟨rfl, hg⟩ := hgv
    have G2 : Hid (Gr w w1) := Lib.hid (((Gr.refl _).alloc _).trans hg)
    clear hg hz
    go_wp2_with fail
    refine bodyPost_ret (v := .tuple #[.slice none 0 0, .int .i64 er]) (by simp [results, Try.results8, go_sem]) rfl ?_
    rw [er2.out]
    exact ⟨rfl, G2.out⟩
  | ok gs =>
    rw [hz] at hgv
    have OE : Hid (circleT ts pn cn = .ok (bestT gs)) := Lib.hid (by unfold circleT; rw [hz])
    have gl : gs.length ≤ 120 := by rw [(graph_in hz).2]; exact h120
    have IG : Hid (InG gs.length gs) := Lib.hid (by rw [(graph_in hz).2]; exact (graph_in hz).1)
    have RW := Lib.hid (graph_row (good_of C.out) hz)
    obtain ⟨GB, vs, rfl, hga, hgb, hg⟩ := hgv
    have G2 : Hid (Gr w w1) := Lib.hid (((Gr.refl _).alloc _).trans hg)
    have GA := Lib.hid hga
    clear hg hz hga hgb
    go_wp2_with fail
    (try go_step3)
    (try go_wp2_with fail)
    go_loopw [10, 25] (fun sl i wr => ∃ k : Nat, k ≤ gs.length ∧ i = .int .i64 k ∧ ∃ b : List Int, Hid (b = (List.range k).foldl (bestF gs) []) ∧ wr.ownsRow w.heap.size 3 1 sl b.length (nums b) ∧ (∀ z ∈ b, Wide z) ∧ b.length ≤ 121 ∧ Gr w1 wr) (fun _ i _ => gs.length - (intOf i).toNat)
    case atStart => exact ⟨0, Nat.zero_le _, rfl, [], Lib.hid rfl, World.ownsRow_nil _ _ _ _, fun z h => by simp at h, by simp, Gr.refl _⟩
    case round =>
      obtain ⟨k, hk, rfl, b, HB, how, hwd, hbl, hg⟩ := hrel
      obtain ⟨va, vc, rfl⟩ := owns_slice how
      have OB := Lib.hid how
      have WB := Lib.hid hwd
      have HG := Lib.hid hg
      clear how hwd hg
      by_cases hlt : k < gs.length
      · have hlt2 : (k : Int) < gs.length := by omega
        obtain ⟨c, hc⟩ : ∃ c, circT gs k = c := ⟨_, rfl⟩
        have HC := Lib.hid hc
        have hcl : c.length ≤ 121 := by rw [← hc]; have := circT_len gs k; omega
        have CC := Lib.hid (circle_any' gs k GB _ vs wr (GA.out.gr HG.out) IG.out hlt gl RW.out)
        rw [hc] at CC
        have gk0 : wr.cell? ⟨GB, 0, none⟩ = wr.cell? ⟨GB, 0, none⟩ := rfl
        clear hc gk0
        go_wp2_with fail
        refine CC.out.mono ?_
        rintro e w6 ⟨v, rfl, hoc, hwc, hg6⟩
        obtain ⟨ca, cc, rfl⟩ := owns_slice hoc
        have OC := Lib.hid hoc
        have WC := Lib.hid hwc
        have G6 := Lib.hid hg6
        clear hoc hwc hg6
        rcases Nat.eq_zero_or_pos c.length with m0 | m0
        · have e1 : decide ((0 : Int) < (c.length : Int)) = false := decide_eq_false (by omega)
          have e2 : ¬ (0 : Int) < (c.length : Int) := by omega
          have KE : Hid ((List.range (k + 1)).foldl (bestF gs) [] = b) := Lib.hid (by rw [bestT_snoc, ← HB.out]; unfold bestF; rw [HC.out, show betterB b c = false by unfold betterB; rw [decide_eq_false (show ¬ 0 < c.length by omega)]; rfl]; rfl)
          go_wp2_with fail
          all_goals go_roundw
          case rel => exact ⟨k + 1, by omega, by go_num, b, Lib.hid KE.out.symm, Gr.owns OB.out G6.out, WB.out, by omega, HG.out.trans G6.out⟩
          case measure => simp [intOf]; omega
        · have e1 : decide ((0 : Int) < (c.length : Int)) = true := decide_eq_true (by omega)
          have e2 : (0 : Int) < (c.length : Int) := by omega
          rcases Nat.eq_zero_or_pos b.length with n0 | n0
          · have e3 : ((b.length : Int) == 0) = true := by rw [beq_iff_eq]; omega
            have KE : Hid ((List.range (k + 1)).foldl (bestF gs) [] = c) := Lib.hid (by rw [bestT_snoc, ← HB.out]; unfold bestF; rw [HC.out, show betterB b c = true by unfold betterB; rw [decide_eq_true m0, decide_eq_true n0]; rfl]; rfl)
            go_wp2_with fail
            all_goals go_roundw
            case rel => exact ⟨k + 1, by omega, by go_num, c, Lib.hid KE.out.symm, owns_low OC.out (G2.out.trans HG.out).size, WC.out, by omega, HG.out.trans G6.out⟩
            case measure => simp [intOf]; omega
          · have e3 : ((b.length : Int) == 0) = false := by rw [beq_eq_false_iff_ne]; omega
            by_cases q : c.length < b.length
            · have e4 : (c.length : Int) < b.length := by omega
              have e5 : decide ((c.length : Int) < b.length) = true := decide_eq_true (by omega)
              have KE : Hid ((List.range (k + 1)).foldl (bestF gs) [] = c) := Lib.hid (by rw [bestT_snoc, ← HB.out]; unfold bestF; rw [HC.out, show betterB b c = true by unfold betterB; rw [decide_eq_true m0, decide_eq_false (show ¬ b.length = 0 by omega), decide_eq_true q]; rfl]; rfl)
              go_wp2_with fail
              all_goals go_roundw
              case rel => exact ⟨k + 1, by omega, by go_num, c, Lib.hid KE.out.symm, owns_low OC.out (G2.out.trans HG.out).size, WC.out, by omega, HG.out.trans G6.out⟩
              case measure => simp [intOf]; omega
            · have e4 : ¬ (c.length : Int) < b.length := by omega
              have e5 : decide ((c.length : Int) < b.length) = false := decide_eq_false (by omega)
              have KE : Hid ((List.range (k + 1)).foldl (bestF gs) [] = b) := Lib.hid (by rw [bestT_snoc, ← HB.out]; unfold bestF; rw [HC.out, show betterB b c = false by unfold betterB; rw [decide_eq_true m0, decide_eq_false (show ¬ b.length = 0 by omega), decide_eq_false q]; rfl]; rfl)
              go_wp2_with fail
              all_goals go_roundw
              case rel => exact ⟨k + 1, by omega, by go_num, b, Lib.hid KE.out.symm, Gr.owns OB.out G6.out, WB.out, by omega, HG.out.trans G6.out⟩
              case measure => simp [intOf]; omega
      · have hkk : k = gs.length := by omega
        have R : Hid (circleT ts pn cn = .ok b) := Lib.hid (by rw [OE.out, HB.out, hkk]; rfl)
        clear hkk
        go_wp2_with fail
        (try rw [Exit.noGoto_ret])
        refine bodyPost_ret (v := .tuple #[.slice va b.length vc, .int .i64 0]) (by simp [results, Try.results8, go_sem]) rfl ?_
        rw [R.out]
        exact ⟨_, rfl, OB.out, WB.out, G2.out.trans HG.out⟩
end Go.Proofs.Ytdjhnfopdlgliaa

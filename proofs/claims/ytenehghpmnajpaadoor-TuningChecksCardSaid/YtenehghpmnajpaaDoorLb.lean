/- A refutation of the call's own, read as branches. Plain: the example of chapter 17. No program in sight. (several texts in one, by wip/tools/merge.py) -/
import Derived.Test.YtenehghpmnajpaaDoorLa
import Derived.Test.YtenehghpmnajpaaDoorRvC
import Derived.Test.YtenehghpmnajpaaDoorKx
import Derived.Test.YtenehghpmnajpaaDoorKw
/-! A refutation of the call's own, read as branches. -/
set_option linter.unusedVariables false
set_option linter.unusedSimpArgs false
namespace Go.Proofs.YtenehghpmnajpaaDoor
open Go.RowKit
open Classical

theorem brns_at {base : Nat} {w : World} {A : Option Addr} {cap : Nat} {xs : List (Brn × Option Addr × Nat)} (h : BrnsAt base w (.slice A xs.length cap) xs) (hw : ∀ x ∈ xs.map (·.1), BrnW x) : SlOf 3 RBrn w A (xs.map (·.1)) := by
  intro k hk
  have hk' : k < xs.length := by simpa using hk
  obtain ⟨g, cap', e, _, _, hc⟩ := owns_cell h.1 (by omega)
  cases e
  refine ⟨g, 0, rfl, ?_⟩
  have hf := fun j (hj : j < 3) => flat_at encN 3 (fun _ => rfl) xs k j hk' hj
  have h2 : ∀ j, j < 3 → w.cell? ⟨g, k * 3 + j, none⟩ = (encN xs[k])[j]? := fun j hj => by
    rw [hc (k * 3 + j) (by omega), hf j hj]
  rw [Nat.zero_add]
  have hx := hw xs[k].1 (List.mem_map.2 ⟨_, List.getElem_mem hk', rfl⟩)
  obtain ⟨⟨a1, a2⟩, ⟨b1, b2⟩, c1, d1⟩ := hx
  obtain ⟨n1, n2⟩ := h.2 xs[k] (List.getElem_mem hk')
  rw [List.getElem_map]
  refine ⟨⟨h2 0 (by omega), by unfold Wide; omega⟩, ⟨h2 1 (by omega), by unfold Wide; omega⟩, ⟨_, _, h2 2 (by omega), n2, by unfold Fit; omega, n1.slI fun j hj => ?_⟩⟩
  have := d1 _ (List.getElem_mem hj)
  unfold Wide; omega
theorem refS_w {l : List Clk} {ms : List Lmt} (hc : cchk l = 0) (hm : LsOk l ms) (hn : ∀ s, SetOk l s → meetS l ms s = false) : (∀ x ∈ refS l ms, BrnW x) ∧ (refS l ms).length ≤ 69632 ∧ 1 ≤ (refS l ms).length := by
  have hn' : NoExt l ms (startS l) := fun s hs _ => hn s hs
  have h1 := refB_small (g := opens (startS l) + 1) (a := 0) hc hm (startS_ok hc) hn'
  exact ⟨refB_w hc hm _ _ 0 (startS_ok hc) hn' (by omega), h1, refB_pos l ms _ _ _⟩
theorem refS_ref {l : List Clk} {ms : List Lmt} (hc : cchk l = 0) (hm : LsOk l ms) (hn : ∀ s, SetOk l s → meetS l ms s = false) : refAns l ms (refS l ms) = true := by
  have hn' : NoExt l ms (startS l) := fun s hs _ => hn s hs
  have h2 := refB_pos l ms (opens (startS l)) (startS l) 0
  unfold refAns
  rw [show refChk l ms (refS l ms) = true from refChk_refB hc hm hn' (by omega), Bool.and_true, decide_eq_true_iff]
  intro e
  unfold refS at e
  rw [e] at h2
  simp at h2
end Go.Proofs.YtenehghpmnajpaaDoor

/-! Plain: the example of chapter 17. No program in sight. -/
set_option linter.unusedVariables false
set_option linter.unusedSimpArgs false
namespace Go.Proofs.YtenehghpmnajpaaDoor
open Go.RowKit
open Classical

def twoL : List Clk := [⟨1, [], [24], 0, 0⟩, ⟨2, [0], [2, 4], 0, 0⟩]
def twoA : List Lmt := [⟨1, 10, 12⟩]
def twoB : List Lmt := [⟨1, 7, 10⟩]
theorem two_chk : cchk twoL = 0 := by
  refine cchk_ok ?_ ?_ (by decide) (by decide)
  · rintro (q | ⟨k, hk, q⟩)
    · simp [twoL] at q
    · have : k = 0 ∨ k = 1 := by simp [twoL] at hk; omega
      rcases this with rfl | rfl <;> simp [twoL, BigC] at q
  · intro k hk
    refine ⟨hk, ?_⟩
    have : k = 0 ∨ k = 1 := by simp [twoL] at hk; omega
    rcases this with rfl | rfl
    · refine ⟨fun j hj => by simp [twoL] at hj, .inl ⟨rfl, rfl, rfl, by simp [twoL]⟩, by simp [twoL, LimOk]⟩
    · refine ⟨fun j hj => ?_, .inr (.inl ⟨.inl rfl, rfl, by simp [twoL], ?_⟩), by simp [twoL, LimOk]⟩
      · have : j = 0 := by simp [twoL] at hj; omega
        subst this; simp [twoL]
      · intro j hj
        have : j = 0 ∨ j = 1 := by simp [twoL] at hj; omega
        rcases this with rfl | rfl <;> exact ⟨hj, by simp [twoL]⟩
theorem two_set {a : Int} (ha : 0 ≤ a ∧ a ≤ 1) : SetOk twoL [0, a] := by
  refine ⟨rfl, fun i h1 h2 => ?_⟩
  have : i = 0 ∨ i = 1 := by simp [twoL] at h1; omega
  rcases this with rfl | rfl <;> simp [twoL] <;> omega
theorem two_only {s : List Int} (h : SetOk twoL s) : s = [0, 0] ∨ s = [0, 1] := by
  obtain ⟨hl, hk⟩ := h
  match s, hl, hk with
  | [x, y], _, hk =>
    have h0 := hk 0 (by simp [twoL]) (by simp)
    have h1 := hk 1 (by simp [twoL]) (by simp)
    simp [twoL] at h0 h1
    have : x = 0 := by omega
    have : y = 0 ∨ y = 1 := by omega
    subst x
    rcases this with rfl | rfl <;> simp
theorem two_lims (lo hi : Int) (h0 : 0 ≤ lo) (h1 : lo ≤ hi) (h2 : hi ≤ 4000000000) : LsOk twoL [⟨1, lo, hi⟩] := by
  refine ⟨by simp, fun j hj => ?_⟩
  have : j = 0 := by simp at hj; omega
  subst this
  exact ⟨by simp, by simp [twoL], h0, h1, h2⟩
theorem o_of2 (n k : Int) (n' d' : Int) (ho : okFac n 1 k = true) (hn : 0 ≤ n) (hk : 1 ≤ k) (h : newN n (1 * k) = n') (h' : newD n (1 * k) = d') : oN n 1 k = n' ∧ oD n 1 k = d' := by
  have hv := over_new n 1 k hn (by omega) hk
  rw [oN, oD, if_pos ho, if_pos ho, ← hv.2.1, ← hv.2.2]
  exact ⟨h, h'⟩
theorem o2_2 : oN 24 1 2 = 12 ∧ oD 24 1 2 = 1 := o_of2 24 2 12 1 (by decide) (by omega) (by omega) (by decide) (by decide)
theorem o2_4 : oN 24 1 4 = 6 ∧ oD 24 1 4 = 1 := o_of2 24 4 6 1 (by decide) (by omega) (by omega) (by decide) (by decide)
theorem two_rts0 : rts twoL [0, 0] = [some (24, 1), some (12, 1)] := by
  simp [rts, ratesGo, twoL, stepR, chC, parC, scaleR, o2_2.1, o2_2.2]
theorem two_rts1 : rts twoL [0, 1] = [some (24, 1), some (6, 1)] := by
  simp [rts, ratesGo, twoL, stepR, chC, parC, scaleR, o2_4.1, o2_4.2]
theorem own_two (R : List Rt) : OwnR R twoL := by
  intro i h
  have : i = 0 ∨ i = 1 := by simp [twoL] at h; omega
  unfold ownOk
  rcases this with rfl | rfl <;> split <;> simp [twoL]
theorem two_meet {lo hi : Int} {s : List Int} : meetS twoL [⟨1, lo, hi⟩] s = okIn (rtAt (rts twoL s) 1) lo hi := by
  rw [Bool.eq_iff_iff, meetS_true]
  constructor
  · intro h; exact h.2 ⟨1, lo, hi⟩ (by simp)
  · intro h
    refine ⟨own_two _, fun x hx => ?_⟩
    have : x = ⟨1, lo, hi⟩ := by simpa using hx
    subst this; exact h
theorem two_a : meetS twoL twoA [0, 0] = true := by unfold twoA; rw [two_meet, two_rts0]; decide
theorem two_num0 : num twoL [0, 0] = 0 := by decide
theorem two_b {s : List Int} (h : SetOk twoL s) : meetS twoL twoB s = false := by
  unfold twoB
  rw [two_meet]
  rcases two_only h with rfl | rfl
  · rw [two_rts0]; decide
  · rw [two_rts1]; decide
theorem two_least {s : List Int} (h : LeastS twoL twoA s) : s = [0, 0] := by
  obtain ⟨h1, h2, h3⟩ := h
  have hb := num_bound h1
  refine num_inj h1 (two_set ⟨by omega, by omega⟩) ?_
  rw [two_num0]
  rcases Int.lt_or_le 0 (num twoL s) with q | q
  · have := h3 [0, 0] (two_set ⟨by omega, by omega⟩) (by rw [two_num0]; exact q)
    rw [two_a] at this; cases this
  · omega
theorem two_start : startS twoL = [0, -1] := by simp [startS, twoL]
theorem two_all : allB twoL twoB = [⟨0, 1, 7, 10, false⟩] := by simp [allB, limsB, limB, ownB, ownOne, twoL, twoB]
theorem two_dec0 : dec twoL [0, 0] 1 = .isr (some (12, 1)) := by
  have h0 : dec twoL [0, 0] 0 = .isr (some (24, 1)) := dec_fix (by simp [twoL]) (by simp [sOf]) (by simp [twoL])
  rw [dec_par (by simp [twoL]) (by simp [sOf]) (by simp [twoL]) (by simp [twoL, parC, sOf])]
  have e : (parC twoL[1] (sOf [0, 0] 1)).toNat = 0 := by simp [twoL, parC, sOf]
  rw [e, h0]
  simp [Dec.thn, stepP, twoL, chC, sOf, scaleR, o2_2.1, o2_2.2]
theorem two_dec1 : dec twoL [0, 1] 1 = .isr (some (6, 1)) := by
  have h0 : dec twoL [0, 1] 0 = .isr (some (24, 1)) := dec_fix (by simp [twoL]) (by simp [sOf]) (by simp [twoL])
  rw [dec_par (by simp [twoL]) (by simp [sOf]) (by simp [twoL]) (by simp [twoL, parC, sOf])]
  have e : (parC twoL[1] (sOf [0, 1] 1)).toNat = 0 := by simp [twoL, parC, sOf]
  rw [e, h0]
  simp [Dec.thn, stepP, twoL, chC, sOf, scaleR, o2_4.1, o2_4.2]
theorem two_j : judge twoL twoB [0, -1] = (-1, 1) := by
  have h : dec twoL [0, -1] 1 = .opn 1 := dec_open (by simp [sOf])
  unfold judge
  rw [two_all]
  simp [judgeGo, h]
theorem two_j0 : judge twoL twoB [0, 0] = (0, 0) := by
  unfold judge
  rw [two_all]
  have : brokB ⟨0, 1, 7, 10, false⟩ (some (12, 1)) = true := by decide
  simp [judgeGo, two_dec0, this]
theorem two_j1 : judge twoL twoB [0, 1] = (0, 0) := by
  unfold judge
  rw [two_all]
  have : brokB ⟨0, 1, 7, 10, false⟩ (some (6, 1)) = true := by decide
  simp [judgeGo, two_dec1, this]
theorem two_ref (g : Nat) : (refB twoL twoB (g + 2) [0, -1] 0).length = 3 := by
  have hk : (kOf twoL 1).toNat = 2 := by simp [kOf, twoL]
  rw [refB_node (f := 1) two_j, hk]
  have e0 : ∀ a, refB twoL twoB (g + 1) [0, 0] a = [⟨0, 0, []⟩] := fun a => refB_leaf two_j0 (by omega)
  have e1 : ∀ a, refB twoL twoB (g + 1) [0, 1] a = [⟨0, 0, []⟩] := fun a => refB_leaf two_j1 (by omega)
  simp [kidsGo, e0, e1]
theorem two_opens : opens (startS twoL) = 1 := by rw [two_start]; rfl
end Go.Proofs.YtenehghpmnajpaaDoor

/-! Contract of law17's two and awake. -/
set_option linter.unusedVariables false
set_option linter.unusedSimpArgs false
namespace Go.Proofs.YtenehghpmnajpaaDoor
open Go.RowKit
open Classical

set_option maxRecDepth 100000 in
set_option maxHeartbeats 1000000 in
theorem two_any (w : World) : Calls Tryd.prog 70 #[] w fun e w' => ∃ B, e = .returned (.slice (some ⟨B, 0, none⟩) 2 2) ∧ SlOf 5 RClk w' (some ⟨B, 0, none⟩) twoL ∧ Gr w w' := by
  go_enter Tryd.func70, Tryd.ntmps70
  go_wp2_with fail
  obtain ⟨w5, hw5⟩ : ∃ w5 : World, Hid (w5 = ((w.alloc (.cells #[.int .i64 24] 3)).alloc (.cells #[.int .i64 0] 3)).alloc (.cells #[.int .i64 2, .int .i64 4] 3)) := ⟨_, Lib.hid rfl⟩
  rw [← hw5.out]
  have a0 : Row w5 w.heap.size 3 (nums [24]) := by
    rw [hw5.out]; exact ((row_new' w #[.int .i64 24] 3 _ rfl).alloc _).alloc _
  have a1 : Row w5 (w.heap.size + 1) 3 (nums [0]) := by
    rw [hw5.out]; exact (row_new' _ #[.int .i64 0] 3 _ (by simp)).alloc _
  have a2 : Row w5 (w.heap.size + 1 + 1) 3 (nums [2, 4]) := by
    rw [hw5.out]; exact row_new' _ #[.int .i64 2, .int .i64 4] 3 _ (by simp)
  have z5 : w5.heap.size = w.heap.size + 1 + 1 + 1 := by rw [hw5.out]; simp
  have g5 : Gr w w5 := by rw [hw5.out]; exact (((Gr.refl w).alloc _).alloc _).alloc _
  go_ret
  obtain ⟨arr, harr⟩ : ∃ arr, arr = #[Value.int .i64 1, .slice none 0 0, .slice (some ⟨w.heap.size, 0, none⟩) 1 1, .int .i64 0, .int .i64 0, .int .i64 2, .slice (some ⟨w.heap.size + 1, 0, none⟩) 1 1, .slice (some ⟨w.heap.size + 1 + 1, 0, none⟩) 2 2, .int .i64 0, .int .i64 0] := ⟨_, rfl⟩
  rw [← harr]
  have r := row_new' w5 arr 28 _ z5.symm
  have G := (Gr.refl w5).alloc (.cells arr 28)
  obtain ⟨w6, hw6⟩ : ∃ w6 : World, w6 = w5.alloc (.cells arr 28) := ⟨_, rfl⟩
  rw [← hw6] at r G ⊢
  have b0 := a0.gr G
  have b1 := a1.gr G
  have b2 := a2.gr G
  have wd : ∀ xs : List Int, (∀ x ∈ xs, 0 ≤ x ∧ x ≤ 100) → ∀ k (hk : k < xs.length), Wide xs[k] := fun xs h k hk => by
    have := h _ (List.getElem_mem hk); unfold Wide; omega
  have c := fun j (hj : j < 10) => r.cell j (by rw [harr]; exact hj)
  refine ⟨_, rfl, ?_, g5.trans G⟩
  subst harr
  intro k hk
  have : k = 0 ∨ k = 1 := by simp [twoL] at hk; omega
  have wi : ∀ x : Int, 0 ≤ x → x ≤ 100 → Wide x := fun x h h' => by unfold Wide; omega
  rcases this with rfl | rfl
  · refine ⟨_, 0, rfl, ⟨c 0 (by omega), wi _ (by simp [twoL]) (by simp [twoL])⟩, ⟨none, 0, c 1 (by omega), by simp [twoL], by simp [twoL, Fit], SlOf.nil _ _ _ _⟩, ⟨_, 1, c 2 (by omega), by simp [twoL], by simp [twoL, Fit], b0.s.slI (wd _ (by simp))⟩, ⟨c 3 (by omega), wi _ (by simp [twoL]) (by simp [twoL])⟩, ⟨c 4 (by omega), wi _ (by simp [twoL]) (by simp [twoL])⟩⟩
  · refine ⟨_, 0, rfl, ⟨c 5 (by omega), wi _ (by simp [twoL]) (by simp [twoL])⟩, ⟨_, 1, c 6 (by omega), by simp [twoL], by simp [twoL, Fit], b1.s.slI (wd _ (by simp))⟩, ⟨_, 2, c 7 (by omega), by simp [twoL], by simp [twoL, Fit], b2.s.slI (wd _ (by simp))⟩, ⟨c 8 (by omega), wi _ (by simp [twoL]) (by simp [twoL])⟩, ⟨c 9 (by omega), wi _ (by simp [twoL]) (by simp [twoL])⟩⟩
theorem lim_at {w : World} {N : Nat} {k lo hi : Int} (h : Row w N 53 [.int .i64 k, .int .i64 lo, .int .i64 hi]) (hk : Wide k) (hl : Wide lo) (hh : Wide hi) : SlOf 3 RLmt w (some ⟨N, 0, none⟩) [⟨k, lo, hi⟩] := by
  intro j hj
  have : j = 0 := by simp at hj; omega
  subst this
  exact ⟨N, 0, rfl, ⟨h.cell 0 (by simp), hk⟩, ⟨h.cell 1 (by simp), hl⟩, ⟨h.cell 2 (by simp), hh⟩⟩
theorem env_two {w : World} {B N : Nat} {lo hi : Int} (hoff : OffV w) (hs : SlOf 5 RClk w (some ⟨B, 0, none⟩) twoL) (h : Row w N 53 [.int .i64 1, .int .i64 lo, .int .i64 hi]) (h0 : 0 ≤ lo) (h1 : lo ≤ hi) (h2 : hi ≤ 4000000000) : Env w twoL [⟨1, lo, hi⟩] (some ⟨B, 0, none⟩) (some ⟨N, 0, none⟩) :=
  ⟨hs, lim_at h (by unfold Wide; omega) (by unfold Wide; omega) (by unfold Wide; omega), hoff, two_chk, two_lims lo hi h0 h1 h2⟩
set_option maxRecDepth 100000 in
set_option maxHeartbeats 2000000 in
theorem awake17_any (w : World) (hoff : OffV w) : Calls Tryd.prog 34 #[] w (Grows w (.bool true)) := by
  have HO := Lib.hid hoff
  have TW := Lib.hid (fun W => two_any W)
  have SV : Hid (∀ (W : World) (B N : Nat), OffV W → SlOf 5 RClk W (some ⟨B, 0, none⟩) twoL → Row W N 53 [.int .i64 1, .int .i64 10, .int .i64 12] →
      Calls Tryd.prog 30 #[.slice (some ⟨B, 0, none⟩) 2 2, .slice (some ⟨N, 0, none⟩) 1 1] W fun e w' => Gr W w' ∧ ∃ B' c, e = .returned (.tuple #[.slice (some ⟨B', 0, none⟩) 2 c, .int .i64 0]) ∧ RowS w' B' 3 (nums [0, 0])) := Lib.hid (fun W B N h1 h2 h3 => by
    refine (solve_any twoL twoA (some ⟨B, 0, none⟩) (some ⟨N, 0, none⟩) 2 1 W (env_two h1 h2 h3 (by omega) (by omega) (by omega)) (by simp [twoL])).mono ?_
    rintro e w' ⟨hg, ⟨s, B', c, hs, hm, hl, rfl, hr, _⟩ | ⟨hno, _⟩⟩
    · have : s = [0, 0] := two_least ⟨hs, hm, hl⟩
      subst this
      exact ⟨hg, B', c, rfl, hr⟩
    · have := hno [0, 0] (two_set ⟨by omega, by omega⟩)
      rw [two_a] at this; cases this)
  have RF : Hid (∀ (W : World) (B N : Nat), OffV W → SlOf 5 RClk W (some ⟨B, 0, none⟩) twoL → Row W N 53 [.int .i64 1, .int .i64 7, .int .i64 10] →
      Calls Tryd.prog 38 #[.slice (some ⟨B, 0, none⟩) 2 2, .slice (some ⟨N, 0, none⟩) 1 1] W fun e w' => Gr W w' ∧ ∃ A cap, e = .returned (.tuple #[.slice A 3 cap, .int .i64 0]) ∧ SlOf 3 RBrn w' A (refS twoL twoB)) := Lib.hid (fun W B N h1 h2 h3 => by
    refine (refute_any twoL twoB (some ⟨B, 0, none⟩) (some ⟨N, 0, none⟩) 2 1 W (env_two h1 h2 h3 (by omega) (by omega) (by omega)) (by simp [twoL])).mono ?_
    rintro e w' ⟨hg, ⟨⟨s, hs, hm⟩, _⟩ | ⟨hno, A, cap, xs, rfl, hb, hx⟩⟩
    · rw [two_b hs] at hm; cases hm
    · have e3 : xs.length = 3 := by
        have : (xs.map (·.1)).length = 3 := by rw [hx]; unfold refS; rw [two_opens, two_start]; exact two_ref 0
        simpa using this
      have := brns_at hb (by rw [hx]; exact (refS_w two_chk (two_lims 7 10 (by omega) (by omega) (by omega)) fun s hs => two_b hs).1)
      rw [hx] at this
      exact ⟨hg, A, cap, by rw [e3], this⟩)
  have RC : Hid (∀ (W : World) (B N : Nat) (A : Option Addr) (cap : Nat), OffV W → SlOf 5 RClk W (some ⟨B, 0, none⟩) twoL → Row W N 53 [.int .i64 1, .int .i64 7, .int .i64 10] → SlOf 3 RBrn W A (refS twoL twoB) →
      Calls Tryd.prog 40 #[.slice (some ⟨B, 0, none⟩) 2 2, .slice (some ⟨N, 0, none⟩) 1 1, .slice A 3 cap] W (Grows W (.bool true))) := Lib.hid (fun W B N A cap h1 h2 h3 h4 => by
    have e3 : (refS twoL twoB).length = 3 := by unfold refS; rw [two_opens, two_start]; exact two_ref 0
    have := refChk_any twoL twoB (refS twoL twoB) (some ⟨B, 0, none⟩) (some ⟨N, 0, none⟩) A 2 1 cap W (env_two h1 h2 h3 (by omega) (by omega) (by omega)) (by simp [twoL]) h4 (by omega)
    rw [show refAns twoL twoB (refS twoL twoB) = true from refS_ref two_chk (two_lims 7 10 (by omega) (by omega) (by omega)) fun s hs => two_b hs, e3] at this
    exact this)
  clear hoff
  go_enter Tryd.func34, Tryd.ntmps34
  go_wp2_with fail
  refine (TW.out w).mono ?_
  rintro e w1 ⟨B1, rfl, hs1, hg1⟩
  have S1 := Lib.hid hs1
  have G1 := Lib.hid hg1
  clear hs1 hg1
  go_wp2_with fail
  have R2 := Row.new w1 #[.int .i64 1, .int .i64 10, .int .i64 12] 53
  have g2 : Gr w1 (w1.alloc (.cells #[.int .i64 1, .int .i64 10, .int .i64 12] 53)) := (Gr.refl _).alloc _
  refine (SV.out _ B1 w1.heap.size (HO.out.gr (G1.out.trans g2)) (clks_gr S1.out g2) R2).mono ?_
  rintro e w3 ⟨hg3, B2, c2, rfl, hr2⟩
  have G3 := Lib.hid ((G1.out.trans g2).trans hg3)
  have R3 := Lib.hid hr2
  clear hr2 hg3 R2 g2 S1 G1 SV
  go_wp2_with fail
  refine (TW.out w3).mono ?_
  rintro e w4 ⟨B3, rfl, hs3, hg4⟩
  have S3 := Lib.hid hs3
  have G4 := Lib.hid (G3.out.trans hg4)
  have R4 := Lib.hid (R3.out.gr hg4)
  clear hs3 hg4 R3 G3
  go_wp2_with fail
  have R5 := Row.new w4 #[.int .i64 1, .int .i64 7, .int .i64 10] 53
  have g5 : Gr w4 (w4.alloc (.cells #[.int .i64 1, .int .i64 7, .int .i64 10] 53)) := (Gr.refl _).alloc _
  refine (RF.out _ B3 w4.heap.size (HO.out.gr (G4.out.trans g5)) (clks_gr S3.out g5) R5).mono ?_
  rintro e w6 ⟨hg6, A, cap, rfl, hb6⟩
  have G6 := Lib.hid ((G4.out.trans g5).trans hg6)
  have R6 := Lib.hid (R4.out.gr (g5.trans hg6))
  have B6 := Lib.hid hb6
  clear hb6 hg6 R5 g5 R4 G4 S3 RF
  go_wp2_with fail
  have W00 : ∀ k (hk : k < ([0, 0] : List Int).length), Wide ([0, 0] : List Int)[k] := by
    intro k hk
    have : k = 0 ∨ k = 1 := by simp at hk; omega
    rcases this with rfl | rfl <;> simp [Wide]
  have RI : Hid (Calls Tryd.prog 20 #[.slice (some ⟨B2, 0, none⟩) 2 c2, .slice (some ⟨w6.heap.size, 0, none⟩) 2 2] (w6.alloc (.cells #[.int .i64 0, .int .i64 0] 3)) (Grows (w6.alloc (.cells #[.int .i64 0, .int .i64 0] 3)) (.bool true))) := Lib.hid (by
    have := ints_any [0, 0] [0, 0] (some ⟨B2, 0, none⟩) (some ⟨w6.heap.size, 0, none⟩) c2 2 (w6.alloc (.cells #[.int .i64 0, .int .i64 0] 3)) ((R6.out.alloc _).slI W00) (sl_new w6 [0, 0] 3 (by simp [Wide])) (by unfold Fit; simp) (by unfold Fit; simp)
    simpa using this)
  refine RI.out.mono ?_
  rintro e w7 ⟨rfl, hg7⟩
  have g7 := ((Gr.refl w6).alloc (.cells #[.int .i64 0, .int .i64 0] 3)).trans hg7
  have G7 := Lib.hid (G6.out.trans g7)
  have B7 := Lib.hid (B6.out.gr RBrn.mono g7)
  clear hg7 g7 RI R6 B6 G6
  go_wp2_with fail
  refine (TW.out w7).mono ?_
  rintro e w8 ⟨B4, rfl, hs8, hg8⟩
  have S8 := Lib.hid hs8
  have G8 := Lib.hid (G7.out.trans hg8)
  have B8 := Lib.hid (B7.out.gr RBrn.mono hg8)
  clear hs8 hg8 B7 G7
  go_wp2_with fail
  have R9 := Row.new w8 #[.int .i64 1, .int .i64 7, .int .i64 10] 53
  have g9 : Gr w8 (w8.alloc (.cells #[.int .i64 1, .int .i64 7, .int .i64 10] 53)) := (Gr.refl _).alloc _
  refine (RC.out _ B4 w8.heap.size A cap (HO.out.gr (G8.out.trans g9)) (clks_gr S8.out g9) R9 (B8.out.gr RBrn.mono g9)).mono ?_
  rintro e w10 ⟨rfl, hg10⟩
  have G10 := Lib.hid ((G8.out.trans g9).trans hg10)
  clear hg10 R9 g9 RC
  go_wp2_with fail
  go_ret
  exact ⟨rfl, G10.out⟩
end Go.Proofs.YtenehghpmnajpaaDoor

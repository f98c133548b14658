/- Lemmas and contracts for the proof of TuningAnswers (several texts in one, printed by wip/tools/pack.py): Lb Lc OsE RaA. -/
import Derived.Test.YtenehghpmnajpaaGreatDoorTa7pp
import Derived.Test.YtenehghpmnajpaaGreatDoorTa7po
import Derived.Test.YtenehghpmnajpaaGreatDoorTa7pl
import Derived.Test.YtenehghpmnajpaaGreatDoorTa7pj
import Derived.Test.YtenehghpmnajpaaGreatDoorTa7pk
/-! A refutation of the call's own, read as branches. -/
set_option linter.unusedVariables false
set_option linter.unusedSimpArgs false
namespace Go.Proofs.YtenehghpmnajpaaGreatDoor
open Go.RowKit
open Classical
theorem brns_at {base : Nat} {w : World} {A : Option Addr} {cap : Nat} {xs : List (Brn × Option Addr × Nat)} (h : BrnsAt base w (.slice A xs.length cap) xs) (hw : ∀ x ∈ xs.map (·.1), BrnW x) : SlOf 3 RBrn w A (xs.map (·.1)) := by
  intro k hk
  have hk' : k < xs.length := by simpa using hk
  obtain ⟨g, cap', e, _, _, hc⟩ := owns_cell h.1 (by omega)
  cases e
  refine ⟨g, 0, rfl, ?_⟩
  have hf := fun j (hj : j < 3) => flat_at encN 3 (fun _ => rfl) xs k j hk' hj
  have h2 : ∀ j, j < 3 → w.cell? ⟨g, k * 3 + j, none⟩ = (encN xs[k])[j]? := fun j hj => by
    rw [hc (k * 3 + j) (by omega), hf j hj]
  rw [Nat.zero_add]
  have hx := hw xs[k].1 (List.mem_map.2 ⟨_, List.getElem_mem hk', rfl⟩)
  obtain ⟨⟨a1, a2⟩, ⟨b1, b2⟩, c1, d1⟩ := hx
  obtain ⟨n1, n2⟩ := h.2 xs[k] (List.getElem_mem hk')
  rw [List.getElem_map]
  refine ⟨⟨h2 0 (by omega), by unfold Wide; omega⟩, ⟨h2 1 (by omega), by unfold Wide; omega⟩, ⟨_, _, h2 2 (by omega), n2, by unfold Fit; omega, n1.slI fun j hj => ?_⟩⟩
  have := d1 _ (List.getElem_mem hj)
  unfold Wide; omega
theorem refS_w {l : List Clk} {ms : List Lmt} (hc : cchk l = 0) (hm : LsOk l ms) (hn : ∀ s, SetOk l s → meetS l ms s = false) : (∀ x ∈ refS l ms, BrnW x) ∧ (refS l ms).length ≤ 69632 ∧ 1 ≤ (refS l ms).length := by
  have hn' : NoExt l ms (startS l) := fun s hs _ => hn s hs
  have h1 := refB_small (g := opens (startS l) + 1) (a := 0) hc hm (startS_ok hc) hn'
  exact ⟨refB_w hc hm _ _ 0 (startS_ok hc) hn' (by omega), h1, refB_pos l ms _ _ _⟩
theorem refS_ref {l : List Clk} {ms : List Lmt} (hc : cchk l = 0) (hm : LsOk l ms) (hn : ∀ s, SetOk l s → meetS l ms s = false) : refAns l ms (refS l ms) = true := by
  have hn' : NoExt l ms (startS l) := fun s hs _ => hn s hs
  have h2 := refB_pos l ms (opens (startS l)) (startS l) 0
  unfold refAns
  rw [show refChk l ms (refS l ms) = true from refChk_refB hc hm hn' (by omega), Bool.and_true, decide_eq_true_iff]
  intro e
  unfold refS at e
  rw [e] at h2
  simp at h2
end Go.Proofs.YtenehghpmnajpaaGreatDoor
/-! Plain: the example of chapter 17. No program in sight. -/
set_option linter.unusedVariables false
set_option linter.unusedSimpArgs false
namespace Go.Proofs.YtenehghpmnajpaaGreatDoor
open Go.RowKit
open Classical
def twoL : List Clk := [⟨1, [], [24], 0, 0⟩, ⟨2, [0], [2, 4], 0, 0⟩]
def twoA : List Lmt := [⟨1, 10, 12⟩]
def twoB : List Lmt := [⟨1, 7, 10⟩]
theorem two_chk : cchk twoL = 0 := by
  refine cchk_ok ?_ ?_ (by decide) (by decide)
  · rintro (q | ⟨k, hk, q⟩)
    · simp [twoL] at q
    · have : k = 0 ∨ k = 1 := by simp [twoL] at hk; omega
      rcases this with rfl | rfl <;> simp [twoL, BigC] at q
  · intro k hk
    refine ⟨hk, ?_⟩
    have : k = 0 ∨ k = 1 := by simp [twoL] at hk; omega
    rcases this with rfl | rfl
    · refine ⟨fun j hj => by simp [twoL] at hj, .inl ⟨rfl, rfl, rfl, by simp [twoL]⟩, by simp [twoL, LimOk]⟩
    · refine ⟨fun j hj => ?_, .inr (.inl ⟨.inl rfl, rfl, by simp [twoL], ?_⟩), by simp [twoL, LimOk]⟩
      · have : j = 0 := by simp [twoL] at hj; omega
        subst this; simp [twoL]
      · intro j hj
        have : j = 0 ∨ j = 1 := by simp [twoL] at hj; omega
        rcases this with rfl | rfl <;> exact ⟨hj, by simp [twoL]⟩
theorem two_set {a : Int} (ha : 0 ≤ a ∧ a ≤ 1) : SetOk twoL [0, a] := by
  refine ⟨rfl, fun i h1 h2 => ?_⟩
  have : i = 0 ∨ i = 1 := by simp [twoL] at h1; omega
  rcases this with rfl | rfl <;> simp [twoL] <;> omega
theorem two_only {s : List Int} (h : SetOk twoL s) : s = [0, 0] ∨ s = [0, 1] := by
  obtain ⟨hl, hk⟩ := h
  match s, hl, hk with
  | [x, y], _, hk =>
    have h0 := hk 0 (by simp [twoL]) (by simp)
    have h1 := hk 1 (by simp [twoL]) (by simp)
    simp [twoL] at h0 h1
    have : x = 0 := by omega
    have : y = 0 ∨ y = 1 := by omega
    subst x
    rcases this with rfl | rfl <;> simp
theorem two_lims (lo hi : Int) (h0 : 0 ≤ lo) (h1 : lo ≤ hi) (h2 : hi ≤ 4000000000) : LsOk twoL [⟨1, lo, hi⟩] := by
  refine ⟨by simp, fun j hj => ?_⟩
  have : j = 0 := by simp at hj; omega
  subst this
  exact ⟨by simp, by simp [twoL], h0, h1, h2⟩
theorem o_of2 (n k : Int) (n' d' : Int) (ho : okFac n 1 k = true) (hn : 0 ≤ n) (hk : 1 ≤ k) (h : newN n (1 * k) = n') (h' : newD n (1 * k) = d') : oN n 1 k = n' ∧ oD n 1 k = d' := by
  have hv := over_new n 1 k hn (by omega) hk
  rw [oN, oD, if_pos ho, if_pos ho, ← hv.2.1, ← hv.2.2]
  exact ⟨h, h'⟩
theorem o2_2 : oN 24 1 2 = 12 ∧ oD 24 1 2 = 1 := o_of2 24 2 12 1 (by decide) (by omega) (by omega) (by decide) (by decide)
theorem o2_4 : oN 24 1 4 = 6 ∧ oD 24 1 4 = 1 := o_of2 24 4 6 1 (by decide) (by omega) (by omega) (by decide) (by decide)
theorem two_rts0 : rts twoL [0, 0] = [some (24, 1), some (12, 1)] := by
  simp [rts, ratesGo, twoL, stepR, chC, parC, scaleR, o2_2.1, o2_2.2]
theorem two_rts1 : rts twoL [0, 1] = [some (24, 1), some (6, 1)] := by
  simp [rts, ratesGo, twoL, stepR, chC, parC, scaleR, o2_4.1, o2_4.2]
theorem own_two (R : List Rt) : OwnR R twoL := by
  intro i h
  have : i = 0 ∨ i = 1 := by simp [twoL] at h; omega
  unfold ownOk
  rcases this with rfl | rfl <;> split <;> simp [twoL]
theorem two_meet {lo hi : Int} {s : List Int} : meetS twoL [⟨1, lo, hi⟩] s = okIn (rtAt (rts twoL s) 1) lo hi := by
  rw [Bool.eq_iff_iff, meetS_true]
  constructor
  · intro h; exact h.2 ⟨1, lo, hi⟩ (by simp)
  · intro h
    refine ⟨own_two _, fun x hx => ?_⟩
    have : x = ⟨1, lo, hi⟩ := by simpa using hx
    subst this; exact h
theorem two_a : meetS twoL twoA [0, 0] = true := by unfold twoA; rw [two_meet, two_rts0]; decide
theorem two_num0 : num twoL [0, 0] = 0 := by decide
theorem two_b {s : List Int} (h : SetOk twoL s) : meetS twoL twoB s = false := by
  unfold twoB
  rw [two_meet]
  rcases two_only h with rfl | rfl
  · rw [two_rts0]; decide
  · rw [two_rts1]; decide
theorem two_least {s : List Int} (h : LeastS twoL twoA s) : s = [0, 0] := by
  obtain ⟨h1, h2, h3⟩ := h
  have hb := num_bound h1
  refine num_inj h1 (two_set ⟨by omega, by omega⟩) ?_
  rw [two_num0]
  rcases Int.lt_or_le 0 (num twoL s) with q | q
  · have := h3 [0, 0] (two_set ⟨by omega, by omega⟩) (by rw [two_num0]; exact q)
    rw [two_a] at this; cases this
  · omega
theorem two_start : startS twoL = [0, -1] := by simp [startS, twoL]
theorem two_all : allB twoL twoB = [⟨0, 1, 7, 10, false⟩] := by simp [allB, limsB, limB, ownB, ownOne, twoL, twoB]
theorem two_dec0 : dec twoL [0, 0] 1 = .isr (some (12, 1)) := by
  have h0 : dec twoL [0, 0] 0 = .isr (some (24, 1)) := dec_fix (by simp [twoL]) (by simp [sOf]) (by simp [twoL])
  rw [dec_par (by simp [twoL]) (by simp [sOf]) (by simp [twoL]) (by simp [twoL, parC, sOf])]
  have e : (parC twoL[1] (sOf [0, 0] 1)).toNat = 0 := by simp [twoL, parC, sOf]
  rw [e, h0]
  simp [Dec.thn, stepP, twoL, chC, sOf, scaleR, o2_2.1, o2_2.2]
theorem two_dec1 : dec twoL [0, 1] 1 = .isr (some (6, 1)) := by
  have h0 : dec twoL [0, 1] 0 = .isr (some (24, 1)) := dec_fix (by simp [twoL]) (by simp [sOf]) (by simp [twoL])
  rw [dec_par (by simp [twoL]) (by simp [sOf]) (by simp [twoL]) (by simp [twoL, parC, sOf])]
  have e : (parC twoL[1] (sOf [0, 1] 1)).toNat = 0 := by simp [twoL, parC, sOf]
  rw [e, h0]
  simp [Dec.thn, stepP, twoL, chC, sOf, scaleR, o2_4.1, o2_4.2]
theorem two_j : judge twoL twoB [0, -1] = (-1, 1) := by
  have h : dec twoL [0, -1] 1 = .opn 1 := dec_open (by simp [sOf])
  unfold judge
  rw [two_all]
  simp [judgeGo, h]
theorem two_j0 : judge twoL twoB [0, 0] = (0, 0) := by
  unfold judge
  rw [two_all]
  have : brokB ⟨0, 1, 7, 10, false⟩ (some (12, 1)) = true := by decide
  simp [judgeGo, two_dec0, this]
theorem two_j1 : judge twoL twoB [0, 1] = (0, 0) := by
  unfold judge
  rw [two_all]
  have : brokB ⟨0, 1, 7, 10, false⟩ (some (6, 1)) = true := by decide
  simp [judgeGo, two_dec1, this]
theorem two_ref (g : Nat) : (refB twoL twoB (g + 2) [0, -1] 0).length = 3 := by
  have hk : (kOf twoL 1).toNat = 2 := by simp [kOf, twoL]
  rw [refB_node (f := 1) two_j, hk]
  have e0 : ∀ a, refB twoL twoB (g + 1) [0, 0] a = [⟨0, 0, []⟩] := fun a => refB_leaf two_j0 (by omega)
  have e1 : ∀ a, refB twoL twoB (g + 1) [0, 1] a = [⟨0, 0, []⟩] := fun a => refB_leaf two_j1 (by omega)
  simp [kidsGo, e0, e1]
theorem two_opens : opens (startS twoL) = 1 := by rw [two_start]; rfl
end Go.Proofs.YtenehghpmnajpaaGreatDoor
/-! Contract of law17's two and awake. -/
set_option linter.unusedVariables false
set_option linter.unusedSimpArgs false
namespace Go.Proofs.YtenehghpmnajpaaGreatDoor
open Go.RowKit
open Classical
set_option maxRecDepth 100000 in
set_option maxHeartbeats 1000000 in
theorem two_any (w : World) : Calls Tryz.prog 48 #[] w fun e w' => ∃ B, e = .returned (.slice (some ⟨B, 0, none⟩) 2 2) ∧ SlOf 5 RClk w' (some ⟨B, 0, none⟩) twoL ∧ Gr w w' := by
  go_enter Tryz.func48, Tryz.ntmps48
  go_wp2_with fail
  obtain ⟨w5, hw5⟩ : ∃ w5 : World, Hid (w5 = ((w.alloc (.cells #[.int .i64 24] 3)).alloc (.cells #[.int .i64 0] 3)).alloc (.cells #[.int .i64 2, .int .i64 4] 3)) := ⟨_, Lib.hid rfl⟩
  rw [← hw5.out]
  have a0 : Row w5 w.heap.size 3 (nums [24]) := by
    rw [hw5.out]; exact ((row_new' w #[.int .i64 24] 3 _ rfl).alloc _).alloc _
  have a1 : Row w5 (w.heap.size + 1) 3 (nums [0]) := by
    rw [hw5.out]; exact (row_new' _ #[.int .i64 0] 3 _ (by simp)).alloc _
  have a2 : Row w5 (w.heap.size + 1 + 1) 3 (nums [2, 4]) := by
    rw [hw5.out]; exact row_new' _ #[.int .i64 2, .int .i64 4] 3 _ (by simp)
  have z5 : w5.heap.size = w.heap.size + 1 + 1 + 1 := by rw [hw5.out]; simp
  have g5 : Gr w w5 := by rw [hw5.out]; exact (((Gr.refl w).alloc _).alloc _).alloc _
  go_ret
  obtain ⟨arr, harr⟩ : ∃ arr, arr = #[Value.int .i64 1, .slice none 0 0, .slice (some ⟨w.heap.size, 0, none⟩) 1 1, .int .i64 0, .int .i64 0, .int .i64 2, .slice (some ⟨w.heap.size + 1, 0, none⟩) 1 1, .slice (some ⟨w.heap.size + 1 + 1, 0, none⟩) 2 2, .int .i64 0, .int .i64 0] := ⟨_, rfl⟩
  rw [← harr]
  have r := row_new' w5 arr 79 _ z5.symm
  have G := (Gr.refl w5).alloc (.cells arr 79)
  obtain ⟨w6, hw6⟩ : ∃ w6 : World, w6 = w5.alloc (.cells arr 79) := ⟨_, rfl⟩
  rw [← hw6] at r G ⊢
  have b0 := a0.gr G
  have b1 := a1.gr G
  have b2 := a2.gr G
  have wd : ∀ xs : List Int, (∀ x ∈ xs, 0 ≤ x ∧ x ≤ 100) → ∀ k (hk : k < xs.length), Wide xs[k] := fun xs h k hk => by
    have := h _ (List.getElem_mem hk); unfold Wide; omega
  have c := fun j (hj : j < 10) => r.cell j (by rw [harr]; exact hj)
  refine ⟨_, rfl, ?_, g5.trans G⟩
  subst harr
  intro k hk
  have : k = 0 ∨ k = 1 := by simp [twoL] at hk; omega
  have wi : ∀ x : Int, 0 ≤ x → x ≤ 100 → Wide x := fun x h h' => by unfold Wide; omega
  rcases this with rfl | rfl
  · refine ⟨_, 0, rfl, ⟨c 0 (by omega), wi _ (by simp [twoL]) (by simp [twoL])⟩, ⟨none, 0, c 1 (by omega), by simp [twoL], by simp [twoL, Fit], SlOf.nil _ _ _ _⟩, ⟨_, 1, c 2 (by omega), by simp [twoL], by simp [twoL, Fit], b0.s.slI (wd _ (by simp))⟩, ⟨c 3 (by omega), wi _ (by simp [twoL]) (by simp [twoL])⟩, ⟨c 4 (by omega), wi _ (by simp [twoL]) (by simp [twoL])⟩⟩
  · refine ⟨_, 0, rfl, ⟨c 5 (by omega), wi _ (by simp [twoL]) (by simp [twoL])⟩, ⟨_, 1, c 6 (by omega), by simp [twoL], by simp [twoL, Fit], b1.s.slI (wd _ (by simp))⟩, ⟨_, 2, c 7 (by omega), by simp [twoL], by simp [twoL, Fit], b2.s.slI (wd _ (by simp))⟩, ⟨c 8 (by omega), wi _ (by simp [twoL]) (by simp [twoL])⟩, ⟨c 9 (by omega), wi _ (by simp [twoL]) (by simp [twoL])⟩⟩
theorem lim_at {w : World} {N : Nat} {k lo hi : Int} (h : Row w N 35 [.int .i64 k, .int .i64 lo, .int .i64 hi]) (hk : Wide k) (hl : Wide lo) (hh : Wide hi) : SlOf 3 RLmt w (some ⟨N, 0, none⟩) [⟨k, lo, hi⟩] := by
  intro j hj
  have : j = 0 := by simp at hj; omega
  subst this
  exact ⟨N, 0, rfl, ⟨h.cell 0 (by simp), hk⟩, ⟨h.cell 1 (by simp), hl⟩, ⟨h.cell 2 (by simp), hh⟩⟩
theorem env_two {w : World} {B N : Nat} {lo hi : Int} (hoff : OffV w) (hs : SlOf 5 RClk w (some ⟨B, 0, none⟩) twoL) (h : Row w N 35 [.int .i64 1, .int .i64 lo, .int .i64 hi]) (h0 : 0 ≤ lo) (h1 : lo ≤ hi) (h2 : hi ≤ 4000000000) : Env w twoL [⟨1, lo, hi⟩] (some ⟨B, 0, none⟩) (some ⟨N, 0, none⟩) :=
  ⟨hs, lim_at h (by unfold Wide; omega) (by unfold Wide; omega) (by unfold Wide; omega), hoff, two_chk, two_lims lo hi h0 h1 h2⟩
set_option maxRecDepth 100000 in
set_option maxHeartbeats 2000000 in
theorem awake17_any (w : World) (hoff : OffV w) : Calls Tryz.prog 8 #[] w (Grows w (.bool true)) := by
  have HO := Lib.hid hoff
  have TW := Lib.hid (fun W => two_any W)
  have SV : Hid (∀ (W : World) (B N : Nat), OffV W → SlOf 5 RClk W (some ⟨B, 0, none⟩) twoL → Row W N 35 [.int .i64 1, .int .i64 10, .int .i64 12] →
      Calls Tryz.prog 16 #[.slice (some ⟨B, 0, none⟩) 2 2, .slice (some ⟨N, 0, none⟩) 1 1] W fun e w' => Gr W w' ∧ ∃ B' c, e = .returned (.tuple #[.slice (some ⟨B', 0, none⟩) 2 c, .int .i64 0]) ∧ RowS w' B' 3 (nums [0, 0])) := Lib.hid (fun W B N h1 h2 h3 => by
    refine (solve_any twoL twoA (some ⟨B, 0, none⟩) (some ⟨N, 0, none⟩) 2 1 W (env_two h1 h2 h3 (by omega) (by omega) (by omega))).mono ?_
    rintro e w' ⟨hg, ⟨s, B', c, hs, hm, hl, rfl, hr, _⟩ | ⟨hno, _⟩⟩
    · have : s = [0, 0] := two_least ⟨hs, hm, hl⟩
      subst this
      exact ⟨hg, B', c, rfl, hr⟩
    · have := hno [0, 0] (two_set ⟨by omega, by omega⟩)
      rw [two_a] at this; cases this)
  have RF : Hid (∀ (W : World) (B N : Nat), OffV W → SlOf 5 RClk W (some ⟨B, 0, none⟩) twoL → Row W N 35 [.int .i64 1, .int .i64 7, .int .i64 10] →
      Calls Tryz.prog 22 #[.slice (some ⟨B, 0, none⟩) 2 2, .slice (some ⟨N, 0, none⟩) 1 1] W fun e w' => Gr W w' ∧ ∃ A cap, e = .returned (.tuple #[.slice A 3 cap, .int .i64 0]) ∧ SlOf 3 RBrn w' A (refS twoL twoB)) := Lib.hid (fun W B N h1 h2 h3 => by
    refine (refute_any twoL twoB (some ⟨B, 0, none⟩) (some ⟨N, 0, none⟩) 2 1 W (env_two h1 h2 h3 (by omega) (by omega) (by omega))).mono ?_
    rintro e w' ⟨hg, ⟨⟨s, hs, hm⟩, _⟩ | ⟨hno, A, cap, xs, rfl, hb, hx⟩⟩
    · rw [two_b hs] at hm; cases hm
    · have e3 : xs.length = 3 := by
        have : (xs.map (·.1)).length = 3 := by rw [hx]; unfold refS; rw [two_opens, two_start]; exact two_ref 0
        simpa using this
      have := brns_at hb (by rw [hx]; exact (refS_w two_chk (two_lims 7 10 (by omega) (by omega) (by omega)) fun s hs => two_b hs).1)
      rw [hx] at this
      exact ⟨hg, A, cap, by rw [e3], this⟩)
  have RC : Hid (∀ (W : World) (B N : Nat) (A : Option Addr) (cap : Nat), OffV W → SlOf 5 RClk W (some ⟨B, 0, none⟩) twoL → Row W N 35 [.int .i64 1, .int .i64 7, .int .i64 10] → SlOf 3 RBrn W A (refS twoL twoB) →
      Calls Tryz.prog 27 #[.slice (some ⟨B, 0, none⟩) 2 2, .slice (some ⟨N, 0, none⟩) 1 1, .slice A 3 cap] W (Grows W (.bool true))) := Lib.hid (fun W B N A cap h1 h2 h3 h4 => by
    have e3 : (refS twoL twoB).length = 3 := by unfold refS; rw [two_opens, two_start]; exact two_ref 0
    have := refChk_any twoL twoB (refS twoL twoB) (some ⟨B, 0, none⟩) (some ⟨N, 0, none⟩) A 2 1 cap W (env_two h1 h2 h3 (by omega) (by omega) (by omega)) h4 (by omega)
    rw [show refAns twoL twoB (refS twoL twoB) = true from refS_ref two_chk (two_lims 7 10 (by omega) (by omega) (by omega)) fun s hs => two_b hs, e3] at this
    exact this)
  clear hoff
  go_enter Tryz.func8, Tryz.ntmps8
  go_wp2_with fail
  refine (TW.out w).mono ?_
  rintro e w1 ⟨B1, rfl, hs1, hg1⟩
  have S1 := Lib.hid hs1
  have G1 := Lib.hid hg1
  clear hs1 hg1
  go_wp2_with fail
  have R2 := Row.new w1 #[.int .i64 1, .int .i64 10, .int .i64 12] 35
  have g2 : Gr w1 (w1.alloc (.cells #[.int .i64 1, .int .i64 10, .int .i64 12] 35)) := (Gr.refl _).alloc _
  refine (SV.out _ B1 w1.heap.size (HO.out.gr (G1.out.trans g2)) (clks_gr S1.out g2) R2).mono ?_
  rintro e w3 ⟨hg3, B2, c2, rfl, hr2⟩
  have G3 := Lib.hid ((G1.out.trans g2).trans hg3)
  have R3 := Lib.hid hr2
  clear hr2 hg3 R2 g2 S1 G1 SV
  go_wp2_with fail
  refine (TW.out w3).mono ?_
  rintro e w4 ⟨B3, rfl, hs3, hg4⟩
  have S3 := Lib.hid hs3
  have G4 := Lib.hid (G3.out.trans hg4)
  have R4 := Lib.hid (R3.out.gr hg4)
  clear hs3 hg4 R3 G3
  go_wp2_with fail
  have R5 := Row.new w4 #[.int .i64 1, .int .i64 7, .int .i64 10] 35
  have g5 : Gr w4 (w4.alloc (.cells #[.int .i64 1, .int .i64 7, .int .i64 10] 35)) := (Gr.refl _).alloc _
  refine (RF.out _ B3 w4.heap.size (HO.out.gr (G4.out.trans g5)) (clks_gr S3.out g5) R5).mono ?_
  rintro e w6 ⟨hg6, A, cap, rfl, hb6⟩
  have G6 := Lib.hid ((G4.out.trans g5).trans hg6)
  have R6 := Lib.hid (R4.out.gr (g5.trans hg6))
  have B6 := Lib.hid hb6
  clear hb6 hg6 R5 g5 R4 G4 S3 RF
  go_wp2_with fail
  have W00 : ∀ k (hk : k < ([0, 0] : List Int).length), Wide ([0, 0] : List Int)[k] := by
    intro k hk
    have : k = 0 ∨ k = 1 := by simp at hk; omega
    rcases this with rfl | rfl <;> simp [Wide]
  have RI : Hid (Calls Tryz.prog 24 #[.slice (some ⟨B2, 0, none⟩) 2 c2, .slice (some ⟨w6.heap.size, 0, none⟩) 2 2] (w6.alloc (.cells #[.int .i64 0, .int .i64 0] 3)) (Grows (w6.alloc (.cells #[.int .i64 0, .int .i64 0] 3)) (.bool true))) := Lib.hid (by
    have := ints_any [0, 0] [0, 0] (some ⟨B2, 0, none⟩) (some ⟨w6.heap.size, 0, none⟩) c2 2 (w6.alloc (.cells #[.int .i64 0, .int .i64 0] 3)) ((R6.out.alloc _).slI W00) (sl_new w6 [0, 0] 3 (by simp [Wide])) (by unfold Fit; simp) (by unfold Fit; simp)
    simpa using this)
  refine RI.out.mono ?_
  rintro e w7 ⟨rfl, hg7⟩
  have g7 := ((Gr.refl w6).alloc (.cells #[.int .i64 0, .int .i64 0] 3)).trans hg7
  have G7 := Lib.hid (G6.out.trans g7)
  have B7 := Lib.hid (B6.out.gr RBrn.mono g7)
  clear hg7 g7 RI R6 B6 G6
  go_wp2_with fail
  refine (TW.out w7).mono ?_
  rintro e w8 ⟨B4, rfl, hs8, hg8⟩
  have S8 := Lib.hid hs8
  have G8 := Lib.hid (G7.out.trans hg8)
  have B8 := Lib.hid (B7.out.gr RBrn.mono hg8)
  clear hs8 hg8 B7 G7
  go_wp2_with fail
  have R9 := Row.new w8 #[.int .i64 1, .int .i64 7, .int .i64 10] 35
  have g9 : Gr w8 (w8.alloc (.cells #[.int .i64 1, .int .i64 7, .int .i64 10] 35)) := (Gr.refl _).alloc _
  refine (RC.out _ B4 w8.heap.size A cap (HO.out.gr (G8.out.trans g9)) (clks_gr S8.out g9) R9 (B8.out.gr RBrn.mono g9)).mono ?_
  rintro e w10 ⟨rfl, hg10⟩
  have G10 := Lib.hid ((G8.out.trans g9).trans hg10)
  clear hg10 R9 g9 RC
  go_wp2_with fail
  go_ret
  exact ⟨rfl, G10.out⟩
end Go.Proofs.YtenehghpmnajpaaGreatDoor

/-! Contract of bringupclocks.Limits. -/
set_option linter.unusedVariables false
set_option linter.unusedSimpArgs false
namespace Go.Proofs.YtenehghpmnajpaaGreatDoor
open Go.RowKit
open Classical
def MakesLims (b len n : Nat) (w : World) (l : List Clk) (e : Ending) (w' : World) : Prop :=
  ∃ (ms : List Lmt) (v : Value), e = .returned v ∧ w'.ownsRow w.heap.size 35 3 v ms.length (ms.flatMap encM) ∧ ms.length ≤ n ∧ (∀ j (h : j < ms.length), LmtOk l ms[j]) ∧ Mv b len w w'
/-- What stays while limits are made. -/
structure LI (b len base : Nat) (w : World) (ts : List CT) (g c : Nat) (R : List Rt) (v1 v2 : Value) (wr : World) : Prop where
  own : wr.ownsRow base 79 5 (.slice (some ⟨g, 0, none⟩) ts.length c) ts.length (ts.flatMap encC)
  rows : ChRows base wr ts
  r1 : wr.ownsRow w.heap.size 93 2 v1 ts.length (encP (R.map prR))
  r2 : wr.ownsRow w.heap.size 4 1 v2 ts.length (bools (onL R))
  mv : Mv b len w wr
section
variable {b len base : Nat} {w : World} {ts : List CT} {g c : Nat} {R : List Rt} {v1 v2 : Value} {wr w' : World}
theorem LI.mvd (h : LI b len base w ts g c R v1 v2 wr) (hb : b < base) (hw : b < w.heap.size) (m : Mv b len wr w') : LI b len base w ts g c R v1 v2 w' :=
  ⟨m.owns h.own hb, fun t ht => (h.rows t ht).mv m hb, m.owns h.r1 hw, m.owns h.r2 hw, h.mv.trans hw m⟩
theorem LI.gr (h : LI b len base w ts g c R v1 v2 wr) (hg : Gr wr w') : LI b len base w ts g c R v1 v2 w' :=
  ⟨Gr.owns h.own hg, fun t ht => (h.rows t ht).gr hg, Gr.owns h.r1 hg, Gr.owns h.r2 hg, h.mv.gr hg⟩
theorem LI.app (h : LI b len base w ts g c R v1 v2 wr) {e size n : Nat} {v : Value} {xs : List Value} (o : wr.ownsRow w.heap.size e size v n xs) (e1 : e ≠ 79) (e2 : e ≠ 3) (e3 : e ≠ 93) (e4 : e ≠ 4) (hg : wr.grownBy w' v.ownBlock) : LI b len base w ts g c R v1 v2 w' where
  own := h.own.kept hg (owns_two o h.own e1)
  rows := fun t ht => (h.rows t ht).grown hg (fun B vs hB => owns_apart o hB (Ne.symm e2))
  r1 := h.r1.kept hg (owns_two o h.r1 e3)
  r2 := h.r2.kept hg (owns_two o h.r2 e4)
  mv := h.mv.grown hg (fun k e => (o.lt k e).1)
end
set_option maxRecDepth 100000 in
set_option maxHeartbeats 4000000 in
theorem limits_any (w : World) (b len base n c : Nat) (a : Option Addr) (ts : List CT) (ht : Tp w b len) (hb : b < base) (ho : w.ownsRow base 79 5 (.slice a ts.length c) ts.length (ts.flatMap encC)) (hr : ChRows base w ts) (hck : cchk (clks ts) = 0) (h1 : 1 ≤ ts.length) (hl : ts.length ≤ 16) (hn : n ≤ 6) :
    Calls Tryz.prog 11 #[.pointer (some ⟨b, 0, none⟩), .slice a ts.length c, .int .i64 n] w (MakesLims b len n w (clks ts)) := by
  have TT := Lib.hid ht
  have HB := Lib.hid hb
  have HW := Lib.hid ht.has
  obtain ⟨g, c', e, _⟩ := owns_cell ho (by omega)
  cases e
  obtain ⟨j0, hj, hy0, hy1, hy2⟩ := info_parts infoLmt
  have O2 := Lib.hid ho
  have R2 := Lib.hid hr
  have CK := Lib.hid hck
  have HC1 := Lib.hid (allOk_cho (cchk_zero hck).2.1)
  have SA := Lib.hid (setting_any w b len base c (some ⟨g, 0, none⟩) ts ht hb ho hr (by omega) HC1.out)
  clear ht hb ho hr hck
  go_enter Tryz.func11, Tryz.ntmps11
  go_wp2_with fail
  refine SA.out.mono ?_
  rintro e w3 ⟨f, vf, rfl, hof, hsf, hm3⟩
  have O3 := Lib.hid (hm3.owns O2.out HB.out)
  have R3 : Hid (ChRows base w3 ts) := Lib.hid (fun t ht => (R2.out t ht).mv hm3 HB.out)
  have M3 := Lib.hid hm3
  obtain ⟨af, cf, rfl, sf3⟩ := owns_slI hof (setOk_wide CK.out hsf)
  have hcl : (clks ts).length = ts.length := clks_len ts
  obtain ⟨_, _, eq3, _, sl3⟩ := clks_at O3.out R3.out (by omega)
  cases eq3
  have STS := states_any (clks ts) f (some ⟨g, 0, none⟩) af c cf w3 sl3 sf3 CK.out hsf
  rw [hsf.1, hcl] at STS
  have STS' := Lib.hid STS
  have RG := Lib.hid (rts_good CK.out hsf)
  have HRL : Hid ((rts (clks ts) f).length = ts.length) := Lib.hid (by rw [rts_len _ _ hsf.1.symm, hcl])
  have HCL := Lib.hid hcl
  clear hof hsf hm3 SA STS sl3 sf3 O2 R2
  rw [hcl]
  clear hcl
  go_wp2_with fail
  refine STS'.out.mono ?_
  rintro e w4 ⟨v1, v2, rfl, ho1, ho2, hg4⟩
  rw [HCL.out] at ho1 ho2
  obtain ⟨a1, c1, rfl⟩ := owns_slice ho1
  obtain ⟨a2, c2, rfl⟩ := owns_slice ho2
  obtain ⟨R, eR⟩ : ∃ R, rts (clks ts) f = R := ⟨_, rfl⟩
  rw [eR] at ho1 ho2 RG HRL
  have C4 : Hid (LI b len base w ts g c R (.slice a1 ts.length c1) (.slice a2 ts.length c2) w4) := Lib.hid
    ⟨Gr.owns O3.out hg4, fun t ht => (R3.out t ht).gr hg4, owns_low ho1 M3.out.size, owns_low ho2 M3.out.size, M3.out.gr hg4⟩
  clear ho1 ho2 hg4 eR STS' O3 R3 M3
  go_wp2_with fail
  refine (nM_any w4 b len ((n : Int) + 1) (C4.out.mv.tp TT.out) (by omega) (by omega)).mono ?_
  rintro e w5 ⟨m0, rfl, ⟨m00, m01⟩, hm5⟩
  obtain ⟨m0, rfl⟩ := Int.eq_ofNat_of_zero_le m00
  have C5 := Lib.hid (C4.out.mvd HB.out HW.out hm5)
  clear hm5 C4
  go_wp2_with fail
  go_loopw [10, 11] (fun s10 s11 wr => ∃ (ms : List Lmt) (q : Nat) (am : Option Addr) (cm : Nat), s10 = .slice am ms.length cm ∧ s11 = .int .i64 (q : Int) ∧ ms.length + q ≤ n ∧ wr.ownsRow w.heap.size 35 3 (.slice am ms.length cm) ms.length (ms.flatMap encM) ∧ (∀ j (h : j < ms.length), LmtOk (clks ts) ms[j]) ∧ LI b len base w ts g c R (.slice a1 ts.length c1) (.slice a2 ts.length c2) wr) (fun _ s11 _ => (intOf s11).toNat)
  case atStart => exact ⟨[], m0, none, 0, rfl, rfl, by simp; omega, World.ownsRow_nil _ _ _ _, fun j h => by simp at h, C5.out⟩
  case round =>
    clear C5 m01 m00
    obtain ⟨ms, q, am, cm, rfl, rfl, hmn, hom, hlm, hco⟩ := hrel
    have OM := Lib.hid hom
    have LM := Lib.hid hlm
    have CO1 := Lib.hid hco
    clear hom hlm hco
    cases q with
    | zero =>
      go_wp2_with fail
      go_ret
      exact ⟨ms, _, rfl, OM.out, by omega, LM.out, CO1.out.mv⟩
    | succ q =>
      go_wp2_with fail
      refine (nM_any wr b len ts.length (CO1.out.mv.tp TT.out) (by omega) (by omega)).mono ?_
      rintro e w6 ⟨k, rfl, ⟨k0, k1⟩, hm6⟩
      obtain ⟨k, rfl⟩ := Int.eq_ofNat_of_zero_le k0
      have C6 := Lib.hid (CO1.out.mvd HB.out HW.out hm6)
      have OM6 := Lib.hid (hm6.owns OM.out HW.out)
      clear hm6 CO1 OM
      obtain ⟨_, _, er, hra⟩ := rates_of_owns HRL.out C6.out.r1
      cases er
      have hkR : k < R.length := by have := HRL.out; omega
      obtain ⟨g1, rfl, q0, q1⟩ := hra k hkR
      have e := rtAt_eq hkR
      have hgd := RG.out k hkR
      rw [← e] at hgd
      obtain ⟨r, hrr⟩ : ∃ r, rtAt R k = r := ⟨_, rfl⟩
      rw [hrr] at q0 q1 hgd
      have gh1 := has_of_cell q0
      have kl : (k : Int) < ts.length := by omega
      obtain ⟨rn, ern⟩ : ∃ rn, numR r = rn := ⟨_, rfl⟩
      obtain ⟨rd, erd⟩ : ∃ rd, denR r = rd := ⟨_, rfl⟩
      have hv : validB rn rd = true := by
        cases r with
        | none => rw [← ern, ← erd]; rfl
        | some nd => rw [← ern, ← erd]; exact (hgd nd.1 nd.2 rfl).1
      rw [ern] at q0
      rw [erd] at q1
      obtain ⟨u1, u2, u3, u4, u5⟩ := valid_parts hv
      have fl0 := floor_ge rn rd (by omega) u3
      have fl1 := floor_le rn rd (by omega) u3 u2
      clear hv u5 hgd hra hrr e ern erd
      go_wp2_with fail
      refine (refFloor_any rn rd w6 (by omega) (by omega) (by omega) (by omega)).mono ?_
      rintro e w7 ⟨rfl, hg7⟩
      obtain ⟨fl, efl⟩ : ∃ fl, floorI rn rd = fl := ⟨_, rfl⟩
      rw [efl] at fl0 fl1 ⊢
      have C7 := Lib.hid (C6.out.gr hg7)
      have OM7 := Lib.hid (Gr.owns OM6.out hg7)
      obtain ⟨f2, hf2⟩ : ∃ f2 : Int, (if 4000000000 < fl then 4000000000 else fl) = f2 := ⟨_, rfl⟩
      have hf20 : 0 ≤ f2 ∧ f2 ≤ 4000000000 := by rw [← hf2]; split <;> omega
      have F2 := Lib.hid hf20
      obtain ⟨f20, f21⟩ := hf20
      clear hg7 C6 OM6 q0 q1 gh1 efl
      go_wp2_with fail
      refine (pickNew_any w7 b len (C7.out.mv.tp TT.out) _ rfl #[.int .i64 0, .int .i64 1, .int .i64 10, .int .i64 f2] 4 [0, 1, 10, f2] (InTo 0 4000000000) rfl rfl (by omega) (by omega) (by simp [InTo]; omega)).mono ?_
      rintro e w8 ⟨x1, rfl, ⟨x10, x11⟩, hm8⟩
      have C8 := Lib.hid (C7.out.mvd HB.out HW.out hm8)
      have OM8 := Lib.hid (hm8.owns OM7.out HW.out)
      obtain ⟨lo, hlo⟩ : ∃ lo : Int, (if x1 < f2 then f2 - x1 else 0) = lo := ⟨_, rfl⟩
      have hlo0 : 0 ≤ lo ∧ lo ≤ f2 := by rw [← hlo]; split <;> omega
      have LO := Lib.hid hlo0
      clear hm8 C7 OM7 hf2 hlo0
      go_wp2_with fail
      refine (pickNew_any w8 b len (C8.out.mv.tp TT.out) _ rfl #[.int .i64 0, .int .i64 1, .int .i64 5, .int .i64 100] 4 [0, 1, 5, 100] (InTo 0 100) rfl rfl (by omega) (by omega) (by simp [InTo])).mono ?_
      rintro e w9 ⟨x2, rfl, ⟨x20, x21⟩, hm9⟩
      have C9 := Lib.hid (C8.out.mvd HB.out HW.out hm9)
      have OM9 := Lib.hid (hm9.owns OM8.out HW.out)
      obtain ⟨y, hy⟩ : ∃ y : Int, (if f2 + x2 < 4000000000 then f2 + x2 else 4000000000) = y := ⟨_, rfl⟩
      have hy01 : lo ≤ y ∧ y ≤ 4000000000 := by have := LO.out; rw [← hy]; split <;> omega
      have gA : Gr w9 (w9.alloc (.cells #[.int .i64 k, .int .i64 lo, .int .i64 y] 35)) := (Gr.refl _).alloc _
      obtain ⟨N9, hN9⟩ : ∃ N9 : Nat, Hid (w9.heap.size = N9) := ⟨_, Lib.hid rfl⟩
      obtain ⟨WA, hWA⟩ : ∃ WA : World, Hid (WA = (w9.alloc (.cells #[.int .i64 k, .int .i64 lo, .int .i64 y] 35)).alloc (.cells #[.int .i64 k, .int .i64 lo, .int .i64 y] 35)) := ⟨_, Lib.hid rfl⟩
      have gA2 : Gr w9 WA := by rw [hWA.out]; exact gA.alloc _
      have OMa := Lib.hid (Gr.owns OM9.out gA2)
      have Ca := Lib.hid (C9.out.gr gA2)
      have CC : Hid (∀ j u, ([Value.int .i64 k, .int .i64 lo, .int .i64 y])[j]? = some u → WA.cell? ((⟨N9 + 1, 0, none⟩ : Addr).add j) = some u) := Lib.hid (by
        have := row_cells (Row.new (w9.alloc (.cells #[.int .i64 k, .int .i64 lo, .int .i64 y] 35)) #[.int .i64 k, .int .i64 lo, .int .i64 y] 35)
        rw [← hWA.out] at this
        have e : (w9.alloc (.cells #[.int .i64 k, .int .i64 lo, .int .i64 y] 35)).heap.size = N9 + 1 := by simp [hN9.out]
        rw [e] at this
        exact this)
      have one : Hid (∀ u ∈ [Value.int .i64 k, .int .i64 lo, .int .i64 y], u.oneCell' = true) := Lib.hid (by
        intro u hu
        simp only [List.mem_cons, List.not_mem_nil, or_false] at hu
        rcases hu with rfl | rfl | rfl <;> rfl)
      have base : Hid (w.heap.size ≤ WA.heap.size) := Lib.hid Ca.out.mv.size
      have Y := Lib.hid hy01
      clear hm9 C8 OM8 gA gA2 hy01 hlo
      go_wp2_with (first
        | (at_builtin; rw [← hWA.out, hN9.out]; refine wpList_append_own _ rfl _ _ 24 rfl w.heap.size 35 j0 (.agg #[.int .i64 0, .int .i64 0, .int .i64 0]) 3 24 Tryz.underlying24 hj hy0 hy1 hy2 rfl (by decide) (.slice am ms.length cm) ms.length (ms.flatMap encM) rfl OMa.out ⟨N9 + 1, 0, none⟩ 1 1 [.int .i64 k, .int .i64 lo, .int .i64 y] rfl rfl CC.out one.out (by unfold maxLen; omega) (by omega) base.out ?_; intro v' W9 hown hgrow hnil; obtain ⟨a9, c9, rfl⟩ := owns_slice hown; have O9 := Lib.hid hown; have C9 := Lib.hid (Ca.out.app OMa.out (by decide) (by decide) (by decide) (by decide) hgrow); clear hown hgrow hnil)
        | fail)
      go_roundw
      case rel =>
        refine ⟨ms ++ [⟨k, lo, y⟩], q, a9, c9, by simp, by go_num, by simp; omega, ?_, ?_, C9.out⟩
        · have := O9.out
          simpa [encM] using this
        · intro j hj
          by_cases e : j < ms.length
          · rw [List.getElem_append_left e]; exact LM.out j e
          · have : j = ms.length := by simp at hj; omega
            subst this
            simp only [List.getElem_append_right (Nat.le_refl _), Nat.sub_self, List.getElem_cons_zero]
            have h1 := LO.out
            have h2 := Y.out
            exact ⟨by simp, by simp only [HCL.out]; omega, h1.1, h2.1, h2.2⟩
      case measure => simp [intOf]
end Go.Proofs.YtenehghpmnajpaaGreatDoor
/-! Contracts of the reference's Meets and Fits, where clocks, settings and limits are right (printed by wip/tools/mt.py). -/
set_option linter.unusedVariables false
set_option linter.unusedSimpArgs false
namespace Go.Proofs.YtenehghpmnajpaaGreatDoor
open Go.RowKit
open Classical
set_option maxRecDepth 100000 in
set_option maxHeartbeats 2000000 in
theorem fits_any (l : List Clk) (ms : List Lmt) (s : List Int) (al aS am : Option Addr) (cl cs cm : Nat) (w : World) (h : SlOf 5 RClk w al l) (hs : SlOf 1 RI w aS s) (hm : SlOf 3 RLmt w am ms) (hc : cchk l = 0) (hset : SetOk l s) (hlm : ms.length ≤ 32 ∧ ∀ j (h : j < ms.length), LmtOk l ms[j]) :
    Calls Tryz.prog 110 #[.slice al l.length cl, .slice aS s.length cs, .slice am ms.length cm] w (Grows w (.bool (meetS l ms s))) := by
  have hl := small_len (cchk_zero hc).1
  have hRl : (rts l s).length = l.length := rts_len _ _ hset.1.symm
  have ST := Lib.hid (states_any l s al aS cl cs w h hs hc hset)
  rw [hset.1] at ST
  have RG := Lib.hid (rts_good hc hset)
  have H := Lib.hid h
  have HM := Lib.hid hm
  have LM := Lib.hid hlm.2
  have hml := hlm.1
  obtain ⟨R, eR⟩ : ∃ R, rts l s = R := ⟨_, rfl⟩
  have ST2 : Hid (Calls Tryz.prog 51 #[.slice al l.length cl, .slice aS l.length cs] w (fun e w' => ∃ v1 v2, e = .returned (.tuple #[v1, v2]) ∧ w'.ownsRow w.heap.size 93 2 v1 l.length (encP (R.map prR)) ∧ w'.ownsRow w.heap.size 4 1 v2 l.length (bools (onL R)) ∧ Gr w w')) := Lib.hid (by rw [← eR]; exact ST.out)
  rw [eR] at RG hRl
  have cal : meetS l ms s = decide (MeetR R l ms) := by rw [← eR]; exact meetS_eq l ms s
  have HL := Lib.hid hRl
  rw [cal, hset.1]
  clear cal ST h hs hm hc hset hlm eR hRl
  go_enter Tryz.func110, Tryz.ntmps110
  go_wp2_with fail
  refine ST2.out.mono ?_
  rintro e w1 ⟨v1, v2, rfl, ho1, ho2, hg⟩
  obtain ⟨a1, c1, rfl, hr⟩ := rates_of_owns HL.out ho1
  obtain ⟨a2, c2, rfl, hon⟩ := ons_of_owns HL.out ho2
  have HR := Lib.hid hr
  have HO := Lib.hid hon
  have G1 := Lib.hid hg
  clear ho1 ho2 hr hon hg ST2
  go_wp2_with fail
  go_loopw [19] (fun i wr => ∃ k : Nat, k ≤ ms.length ∧ i = .int .i64 k ∧ (∀ j (h : j < ms.length), j < k → okIn (rtAt R ms[j].clock.toNat) ms[j].low ms[j].high = true) ∧ Gr w1 wr) (fun i _ => ms.length - (intOf i).toNat)
  case atStart => exact ⟨0, Nat.zero_le _, rfl, fun j _ h => absurd h (by omega), Gr.refl _⟩
  case round =>
    obtain ⟨k, hk, rfl, hall, hg⟩ := hrel
    have HA := Lib.hid hall
    have HG := Lib.hid hg
    clear hall hg
    obtain ⟨wo, rfl⟩ : ∃ wo : World, wo = wr := ⟨_, rfl⟩
    by_cases hlt : k < ms.length
    · obtain ⟨b, o, rfl, ⟨d0, _⟩, ⟨d1, _⟩, ⟨d2, _⟩⟩ := lmts_gr HM.out (G1.out.trans HG.out) k hlt
      obtain ⟨u0, u1, _⟩ := LM.out k hlt
      obtain ⟨q, hq⟩ : ∃ q : Nat, ms[k].clock = q := ⟨_, (Int.toNat_of_nonneg u0).symm⟩
      have eq : ms[k].clock.toNat = q := by omega
      have hql : q < R.length := by have := HL.out; omega
      obtain ⟨g1, rfl, r0, r1⟩ := (HR.out.gr HG.out) q hql
      obtain ⟨g2, rfl, r2⟩ := (HO.out.gr HG.out) q hql
      have e := rtAt_eq hql
      have hgd := RG.out q hql
      rw [← e] at hgd
      obtain ⟨r, hrr⟩ : ∃ r, rtAt R q = r := ⟨_, rfl⟩
      rw [hrr] at r0 r1 r2 hgd
      have gh1 := has_of_cell r0
      have gh2 := has_of_cell r2
      have q2 : (q : Int) < l.length := by omega
      have RR : Hid (rtAt R ms[k].clock.toNat = r) := Lib.hid (by rw [eq]; exact hrr)
      have NX : Hid (okIn r ms[k].low ms[k].high = true → ∀ j (h : j < ms.length), j < k + 1 → okIn (rtAt R ms[j].clock.toNat) ms[j].low ms[j].high = true) := Lib.hid fun q j h1 hj => by
        by_cases e : j = k
        · subst e; rw [RR.out]; exact q
        · exact HA.out j h1 (by omega)
      have BAD : Hid (okIn r ms[k].low ms[k].high = false → ¬ MeetR R l ms) := Lib.hid fun q h => by
        have := h.2 k hlt
        rw [RR.out, q] at this; cases this
      rw [hq] at d0
      clear hrr e eq u0 u1 hq
      cases r with
      | none =>
        simp only [numR, denR, Option.isSome_none] at r0 r1 r2
        have bad := Lib.hid (BAD.out rfl)
        clear hgd NX BAD
        go_wp2_with fail
        refine wp_region_grows (by kernel_rfl) (by kernel_rfl) ?_
        repeat (go_big_quiet_step (fail))
        refine wpQuiet_nil ?_
        rintro _ ⟨⟨O, d⟩, rfl⟩
        go_wp2_with fail
        go_ret
        exact ⟨ret_bool (decide_eq_false bad.out).symm, ((G1.out.trans HG.out).alloc _).xt _ _⟩
      | some nd =>
        obtain ⟨n, d⟩ := nd
        obtain ⟨hv, hn1⟩ := hgd n d rfl
        obtain ⟨v1, v2, v3, v4, v5⟩ := valid_parts hv
        simp only [numR, denR, Option.isSome_some] at r0 r1 r2
        clear hv v5 hgd
        cases hq : withinB n d ms[k].low ms[k].high with
        | true =>
          have NX3 := Lib.hid (NX.out (by simp [okIn, hq]))
          have wq := refWithin_any n d ms[k].low ms[k].high
          rw [hq] at wq
          clear NX BAD hq
          go_wp2_with fail
          refine wp_region_grows (by kernel_rfl) (by kernel_rfl) ?_
          repeat (go_big_quiet_step (first | (go_at_call 118; exact calls_grows (wq _ (by omega) (by omega) (by omega) (by omega)))))
          refine wpQuiet_nil ?_
          rintro _ ⟨⟨O, d⟩, rfl⟩
          go_wp2_with fail
          go_roundw
          case rel => exact ⟨k + 1, by omega, by go_num, NX3.out, (HG.out.alloc _).xt _ _⟩
          case measure => simp [intOf]; omega
        | false =>
          have bad := Lib.hid (BAD.out (by simp [okIn, hq]))
          have wq := refWithin_any n d ms[k].low ms[k].high
          rw [hq] at wq
          clear NX BAD hq
          go_wp2_with fail
          refine wp_region_grows (by kernel_rfl) (by kernel_rfl) ?_
          repeat (go_big_quiet_step (first | (go_at_call 118; exact calls_grows (wq _ (by omega) (by omega) (by omega) (by omega)))))
          refine wpQuiet_nil ?_
          rintro _ ⟨⟨O, d⟩, rfl⟩
          go_wp2_with fail
          go_ret
          exact ⟨ret_bool (decide_eq_false bad.out).symm, ((G1.out.trans HG.out).alloc _).xt _ _⟩
    · have HA2 : Hid (∀ j (h : j < ms.length), okIn (rtAt R ms[j].clock.toNat) ms[j].low ms[j].high = true) := Lib.hid fun j h => HA.out j h (by omega)
      have OW := refOwn_any l R al a1 a2 cl c1 c2 wo (clks_gr H.out (G1.out.trans HG.out)) (by omega) RG.out HL.out (HR.out.gr HG.out) (HO.out.gr HG.out)
      have OW' := Lib.hid OW
      have EQ : Hid (decide (OwnR R l) = decide (MeetR R l ms)) := Lib.hid (by rw [decide_eq_decide]; exact ⟨fun q => ⟨q, HA2.out⟩, fun q => q.1⟩)
      clear HA OW
      go_wp2_with fail
      refine OW'.out.mono ?_
      rintro e w5 ⟨rfl, hg5⟩
      have G5 := Lib.hid ((G1.out.trans HG.out).trans hg5)
      clear hg5
      go_wp2_with fail
      go_ret
      exact ⟨ret_bool EQ.out, G5.out⟩
end Go.Proofs.YtenehghpmnajpaaGreatDoor

set_option linter.unusedVariables false
set_option linter.unusedSimpArgs false
namespace Go.Proofs.YtenehghpmnajpaaGreatDoor
open Go.RowKit
open Classical
/-- A setting in memory, by the slice that leads to it. -/
def RSet (w : World) (b o : Nat) (s : List Int) : Prop := ∃ a c, w.cell? ⟨b, o, none⟩ = some (.slice a s.length c) ∧ SlOf 1 RI w a s
theorem RSet.mono : Mono RSet := fun _ _ _ _ _ hg ⟨a, c, h, hs⟩ => ⟨a, c, cell_gr hg h, hs.giI hg⟩
/-- Settings of the call's own. -/
def OsAt (base : Nat) (w : World) (os : List OT) : Prop := ∀ o ∈ os, RowS w o.B 3 (nums o.t) ∧ base ≤ o.B
theorem OsAt.gr {base : Nat} {w w' : World} {os : List OT} (h : OsAt base w os) (hg : Gr w w') : OsAt base w' os := fun o ho => ⟨(h o ho).1.gr hg, (h o ho).2⟩
end Go.Proofs.YtenehghpmnajpaaGreatDoor

set_option linter.unusedVariables false
set_option linter.unusedSimpArgs false
namespace Go.Proofs.YtenehghpmnajpaaGreatDoor
open Go.RowKit
open Classical
theorem zero_setA {l : List Clk} (h1 : ∀ c ∈ l, 1 ≤ c.choices.length) : SetOk l (List.replicate l.length 0) ∧ num l (List.replicate l.length 0) = 0 := by
  have hz : ∀ i, sOf (List.replicate l.length 0) i = 0 := fun i => by
    unfold sOf
    rw [List.getD_eq_getElem?_getD, List.getElem?_replicate]; split <;> rfl
  refine ⟨setOk_of (by rw [List.length_replicate]) (fun i hi => ?_), ?_⟩
  · rw [hz, kOf_at hi]
    have := h1 _ (List.getElem_mem hi); omega
  · have : ∀ j, numU (kOf l) (sOf (List.replicate l.length 0)) j = 0 := by
      intro j
      induction j with
      | zero => rfl
      | succ j ih => simp only [numU]; rw [ih, hz]; simp
    exact this _
/-- The settings that meet limits, among those with numbers less than k. -/
noncomputable def metL (l : List Clk) (ms : List Lmt) (k : Nat) : List (List Int) := ((List.range k).map (setN l)).filter (meetS l ms)
theorem metL_succ (l : List Clk) (ms : List Lmt) (k : Nat) : metL l ms (k + 1) = metL l ms k ++ if meetS l ms (setN l k) = true then [setN l k] else [] := by
  unfold metL
  rw [List.range_succ, List.map_append, List.filter_append]
  congr 1
  simp only [List.map_cons, List.map_nil, List.filter_cons, List.filter_nil]
theorem metL_len (l : List Clk) (ms : List Lmt) : ∀ k, (metL l ms k).length = cntK l (meetS l ms) k := by
  intro k
  induction k with
  | zero => rfl
  | succ k ih => rw [metL_succ, List.length_append, cntK_succ, ih]; split <;> simp
/-- All settings that meet the limits, in order. -/
def GivesMet (w : World) (l : List Clk) (ms : List Lmt) (e : Ending) (w' : World) : Prop := ∃ (os : List OT) (a : Option Addr) (c : Nat), e = .returned (.slice a os.length c) ∧ Gr w w' ∧
  w'.ownsRow w.heap.size 22 1 (.slice a os.length c) os.length (os.map (encO l.length)) ∧ OsAt w.heap.size w' os ∧ os.map (·.t) = metL l ms (prodC l)
set_option maxRecDepth 100000 in
set_option maxHeartbeats 2000000 in
theorem refAll_any (l : List Clk) (ms : List Lmt) (al am : Option Addr) (cl cm : Nat) (w : World) (henv : Env w l ms al am) :
    Calls Tryz.prog 62 #[.slice al l.length cl, .slice am ms.length cm] w (GivesMet w l ms) := by
  obtain ⟨_, okC, prC, _⟩ := cchk_zero henv.chk
  have hl := small_len (cchk_zero henv.chk).1
  have HE := Lib.hid henv
  have HC1 := Lib.hid (allOk_cho okC)
  obtain ⟨i0, hi, hz0, hz1, hz2⟩ := info_parts infoSl
  have hmk := run_make_row' (P := Tryz.prog) 22 3 (.int .i64 0) 8 Tryz.underlying22 infoInt rfl .i64 .i64 l.length (by omega) (by omega)
  have PC : Hid (prodC l ≤ 4096 ∧ 1 ≤ prodC l) := Lib.hid ⟨prC, prodC_pos HC1.out⟩
  have Z : Hid (SetOk l (List.replicate l.length 0) ∧ num l (List.replicate l.length 0) = 0) := Lib.hid (zero_setA HC1.out)
  clear henv okC prC
  go_enter Tryz.func62, Tryz.ntmps62
  go_wp2_with fail
  obtain ⟨X0, hX0⟩ : ∃ X0 : Nat, Hid (w.heap.size = X0) := ⟨_, Lib.hid rfl⟩
  obtain ⟨W6, hW6⟩ : ∃ W6 : World, Hid (W6 = w.alloc (.cells (madeCells #[.int .i64 0] l.length) 3)) := ⟨_, Lib.hid rfl⟩
  rw [← hW6.out, hX0.out]
  have RX : Hid (RowS W6 X0 3 (nums (List.replicate l.length 0))) := Lib.hid (by
    rw [hW6.out]
    have := row_new' w (madeCells #[.int .i64 0] l.length) 3 X0 hX0.out.symm
    rw [made_zero] at this
    have e : nums (List.replicate l.length 0) = List.replicate l.length (.int .i64 0) := by simp [nums]
    rw [e]; exact this.s)
  have g6 : Hid (Gr w W6) := Lib.hid (by rw [hW6.out]; exact (Gr.refl _).alloc _)
  have BX0 : Hid (w.heap.size ≤ X0) := Lib.hid (Nat.le_of_eq hX0.out)
  clear hW6 hX0 hmk
  go_loopg [5, 6, 7] (prodC l) (fun gg s5 s6 s7 wx => ∃ (k : Nat) (ao : Option Addr) (co : Nat) (os : List OT), s5 = .slice ao os.length co ∧ wx.ownsRow w.heap.size 22 1 (.slice ao os.length co) os.length (os.map (encO l.length)) ∧ OsAt w.heap.size wx os ∧ os.map (·.t) = metL l ms k ∧ Gr w wx ∧ k ≤ prodC l ∧
    ((s7 = .bool true ∧ ∃ (t : List Int) (B cx : Nat), s6 = .slice (some ⟨B, 0, none⟩) l.length cx ∧ RowS wx B 3 (nums t) ∧ w.heap.size ≤ B ∧ SetOk l t ∧ num l t = (k : Int) ∧ k + gg = prodC l) ∨ (s7 = .bool false ∧ gg = 0 ∧ k = prodC l)))
  case atStart => exact ⟨0, none, 0, [], rfl, World.ownsRow_nil _ _ _ _, (fun o ho => by cases ho), rfl, g6.out, Nat.zero_le _, .inl ⟨rfl, _, X0, l.length, rfl, RX.out, BX0.out, Z.out.1, Z.out.2, by omega⟩⟩
  case round =>
    clear RX g6 Z BX0
    obtain ⟨k, ao, co, os, rfl, hov, hoa, hom, hg6, hk, hcase⟩ := hrel
    obtain ⟨cn, hcn⟩ : ∃ cn, os.length = cn := ⟨_, rfl⟩
    have CN := Lib.hid hcn
    have cn1 : cn ≤ 4096 := by
      have h1 := cntK_le l (meetS l ms) k
      have h2 := PC.out
      have h3 := congrArg List.length hom
      rw [List.length_map, metL_len] at h3
      omega
    rw [hcn] at hov ⊢
    have G6 := Lib.hid hg6
    have OV := Lib.hid hov
    have OA := Lib.hid hoa
    have OM := Lib.hid hom
    clear hg6 hcn hov hoa hom
    rcases hcase with ⟨rfl, t, B, cx, rfl, hrx, hbx, hst, hnum, hgk⟩ | ⟨rfl, rfl, rfl⟩
    · have RX := Lib.hid hrx
      have BX := Lib.hid hbx
      have ST := Lib.hid hst
      have NM := Lib.hid hnum
      have W1 : Hid (∀ j (h : j < t.length), Wide t[j]) := Lib.hid (setOk_wide HE.out.chk hst)
      have MT0 := fits_any l ms t al (some ⟨B, 0, none⟩) am cl cx cm wr (clks_gr HE.out.clks G6.out) (hrx.slI W1.out) (lmts_gr HE.out.lmts G6.out) HE.out.chk hst HE.out.lims
      rw [hst.1] at MT0
      have MT := Lib.hid MT0
      have NT : Hid (∀ W, Gr w W → RowS W B 3 (nums t) → Calls Tryz.prog 77 #[.slice al l.length cl, .slice (some ⟨B, 0, none⟩) l.length cx] W (GivesNext W l t)) := Lib.hid (fun W hW hr => by
        rcases Nat.eq_zero_or_pos l.length with e | e
        · rw [e]
          refine (next0_any al cl B cx W).mono ?_
          rintro e2 w2 ⟨rfl, hg2⟩
          refine ⟨hg2, .inr ⟨rfl, ?_⟩⟩
          have hl0 : l = [] := List.eq_nil_of_length_eq_zero e
          subst hl0
          rfl
        · have := next_any l t al (some ⟨B, 0, none⟩) cl cx W (clks_gr HE.out.clks hW) (hr.slI W1.out) HE.out.chk ST.out e
          rwa [ST.out.1] at this)
      have SN : Hid (setN l k = t) := Lib.hid (setN_eq hst hnum)
      have HK := Lib.hid hgk
      clear hrx hbx hst hnum MT0
      go_wp2_with fail
      refine MT.out.mono ?_
      rintro e w7 ⟨rfl, hg7⟩
      have G7 := Lib.hid hg7
      have OV7 := Lib.hid (Gr.owns OV.out hg7)
      have OA7 := Lib.hid (OA.out.gr hg7)
      have RX7 := Lib.hid (RX.out.gr hg7)
      clear hg7 MT
      cases hm : meetS l ms t with
      | false =>
        have CK2 : Hid (metL l ms (k + 1) = metL l ms k) := Lib.hid (by rw [metL_succ, SN.out, hm]; simp)
        clear hm SN
        go_wp2_with fail
        refine (NT.out w7 (G6.out.trans G7.out) RX7.out).mono ?_
        rintro e w8 ⟨hg8, ⟨t', B', c', rfl, hr', hb', hs', hn'⟩ | ⟨rfl, hl'⟩⟩
        · have NB := Lib.hid (num_bound hs')
          have HR' := Lib.hid hr'
          have HS' := Lib.hid hs'
          have HN' := Lib.hid hn'
          have G8 := Lib.hid ((G6.out.trans G7.out).trans hg8)
          have OV8 := Lib.hid (Gr.owns OV7.out hg8)
          have OA8 := Lib.hid (OA7.out.gr hg8)
          have HB' : Hid (w.heap.size ≤ B') := Lib.hid (Nat.le_trans (G6.out.trans G7.out).size hb')
          clear hr' hb' hs' hn' hg8
          go_wp2_with fail
          go_roundg (gk - 1)
          case measure => have := NB.out; have := HN'.out; have := NM.out; omega
          case rel => exact ⟨k + 1, ao, co, os, by rw [CN.out], by rw [CN.out]; exact OV8.out, OA8.out, by rw [CK2.out]; exact OM.out, G8.out, by have := NB.out; have := HN'.out; have := NM.out; omega, .inl ⟨rfl, t', B', c', rfl, HR'.out, HB'.out, HS'.out, by have := HN'.out; have := NM.out; omega, by have := NB.out; have := HN'.out; have := NM.out; omega⟩⟩
        · have HL' := Lib.hid hl'
          have G8 := Lib.hid ((G6.out.trans G7.out).trans hg8)
          have OV8 := Lib.hid (Gr.owns OV7.out hg8)
          have OA8 := Lib.hid (OA7.out.gr hg8)
          clear hl' hg8
          go_wp2_with fail
          go_roundg 0
          case measure => have := HL'.out; have := NM.out; omega
          case rel => exact ⟨k + 1, ao, co, os, by rw [CN.out], by rw [CN.out]; exact OV8.out, OA8.out, by rw [CK2.out]; exact OM.out, G8.out, by have := HL'.out; have := NM.out; omega, .inr ⟨rfl, rfl, by have := HL'.out; have := NM.out; omega⟩⟩
      | true =>
        have CK2 : Hid (metL l ms (k + 1) = metL l ms k ++ [t]) := Lib.hid (by rw [metL_succ, SN.out, hm]; simp)
        obtain ⟨N9, hN9⟩ : ∃ N9 : Nat, Hid (w7.heap.size = N9) := ⟨_, Lib.hid rfl⟩
        obtain ⟨WA, hWA⟩ : ∃ WA : World, Hid (WA = w7.alloc (.cells #[.slice (some ⟨B, 0, none⟩) l.length cx] 22)) := ⟨_, Lib.hid rfl⟩
        have gA : Hid (Gr w7 WA) := Lib.hid (by rw [hWA.out]; exact (Gr.refl _).alloc _)
        have OVa := Lib.hid (Gr.owns OV7.out gA.out)
        have OAa := Lib.hid (OA7.out.gr gA.out)
        have CC : Hid (∀ j u, ([.slice (some ⟨B, 0, none⟩) l.length cx] : List Value)[j]? = some u → WA.cell? ((⟨N9, 0, none⟩ : Addr).add j) = some u) := Lib.hid (by
          have := row_cells (Row.new w7 #[.slice (some ⟨B, 0, none⟩) l.length cx] 22)
          rw [← hWA.out, hN9.out] at this
          exact this)
        have one : Hid (∀ u ∈ ([.slice (some ⟨B, 0, none⟩) l.length cx] : List Value), u.oneCell' = true) := Lib.hid (fun u hu => by rw [List.mem_singleton.1 hu]; rfl)
        have base : Hid (w.heap.size ≤ WA.heap.size) := Lib.hid ((G6.out.trans G7.out).trans gA.out).size
        clear hm SN
        go_wp2_with (first
          | (at_builtin; rw [← hWA.out, hN9.out]; refine wpList_append_gets _ rfl _ _ 59 rfl w.heap.size 22 i0 (.slice none 0 0) 1 24 Tryz.underlying59 hi hz0 hz1 hz2 rfl (by decide) (.slice ao cn co) cn (os.map (encO l.length)) rfl OVa.out (some ⟨N9, 0, none⟩) 1 1 [.slice (some ⟨B, 0, none⟩) l.length cx] rfl ⟨rfl, fun _ => ⟨_, rfl, CC.out⟩⟩ one.out (by unfold maxLen; omega) (by omega) base.out ?_; intro v' W9 hown hgrow _; obtain ⟨a9, c9, rfl⟩ := owns_slice hown; have O9 := Lib.hid hown; have G9 := Lib.hid (((G6.out.trans G7.out).trans gA.out).grown hgrow (fun k e => (OVa.out.lt k e).1)); have RX9 := Lib.hid ((RX7.out.gr gA.out).grown hgrow (owns_apart OVa.out (RX7.out.gr gA.out) (by decide))); have OA9 : Hid (OsAt w.heap.size W9 os) := Lib.hid (fun o ho => ⟨(OAa.out o ho).1.grown hgrow (owns_apart OVa.out (OAa.out o ho).1 (by decide)), (OAa.out o ho).2⟩); clear hown hgrow)
          | fail)
        refine (NT.out W9 G9.out RX9.out).mono ?_
        rintro e w8 ⟨hg8, ⟨t', B', c', rfl, hr', hb', hs', hn'⟩ | ⟨rfl, hl'⟩⟩
        · have NB := Lib.hid (num_bound hs')
          have HR' := Lib.hid hr'
          have HS' := Lib.hid hs'
          have HN' := Lib.hid hn'
          have G8 := Lib.hid (G9.out.trans hg8)
          have OV8 : Hid (w8.ownsRow w.heap.size 22 1 (.slice a9 (os ++ [(⟨t, B, cx⟩ : OT)]).length c9) (os ++ [(⟨t, B, cx⟩ : OT)]).length ((os ++ [(⟨t, B, cx⟩ : OT)]).map (encO l.length))) := Lib.hid (by
            have := Gr.owns O9.out hg8
            rw [← CN.out] at this
            simpa [encO] using this)
          have OA8 : Hid (OsAt w.heap.size w8 (os ++ [(⟨t, B, cx⟩ : OT)])) := Lib.hid (fun o ho => by
            rcases List.mem_append.1 ho with ho | ho
            · exact OA9.out.gr hg8 o ho
            · have : o = ⟨t, B, cx⟩ := by simpa using ho
              subst this
              exact ⟨RX9.out.gr hg8, BX.out⟩)
          have OM8 : Hid ((os ++ [(⟨t, B, cx⟩ : OT)]).map (·.t) = metL l ms (k + 1)) := Lib.hid (by rw [CK2.out, List.map_append, OM.out]; rfl)
          have HB' : Hid (w.heap.size ≤ B') := Lib.hid (Nat.le_trans G9.out.size hb')
          clear hr' hb' hs' hn' hg8
          go_wp2_with fail
          go_roundg (gk - 1)
          case measure => have := NB.out; have := HN'.out; have := NM.out; omega
          case rel => exact ⟨k + 1, a9, c9, os ++ [(⟨t, B, cx⟩ : OT)], by rw [List.length_append, CN.out]; rfl, OV8.out, OA8.out, OM8.out, G8.out, by have := NB.out; have := HN'.out; have := NM.out; omega, .inl ⟨rfl, t', B', c', rfl, HR'.out, HB'.out, HS'.out, by have := HN'.out; have := NM.out; omega, by have := NB.out; have := HN'.out; have := NM.out; omega⟩⟩
        · have HL' := Lib.hid hl'
          have G8 := Lib.hid (G9.out.trans hg8)
          have OV8 : Hid (w8.ownsRow w.heap.size 22 1 (.slice a9 (os ++ [(⟨t, B, cx⟩ : OT)]).length c9) (os ++ [(⟨t, B, cx⟩ : OT)]).length ((os ++ [(⟨t, B, cx⟩ : OT)]).map (encO l.length))) := Lib.hid (by
            have := Gr.owns O9.out hg8
            rw [← CN.out] at this
            simpa [encO] using this)
          have OA8 : Hid (OsAt w.heap.size w8 (os ++ [(⟨t, B, cx⟩ : OT)])) := Lib.hid (fun o ho => by
            rcases List.mem_append.1 ho with ho | ho
            · exact OA9.out.gr hg8 o ho
            · have : o = ⟨t, B, cx⟩ := by simpa using ho
              subst this
              exact ⟨RX9.out.gr hg8, BX.out⟩)
          have OM8 : Hid ((os ++ [(⟨t, B, cx⟩ : OT)]).map (·.t) = metL l ms (k + 1)) := Lib.hid (by rw [CK2.out, List.map_append, OM.out]; rfl)
          clear hl' hg8
          go_wp2_with fail
          go_roundg 0
          case measure => have := HL'.out; have := NM.out; omega
          case rel => exact ⟨k + 1, a9, c9, os ++ [(⟨t, B, cx⟩ : OT)], by rw [List.length_append, CN.out]; rfl, OV8.out, OA8.out, OM8.out, G8.out, by have := HL'.out; have := NM.out; omega, .inr ⟨rfl, rfl, by have := HL'.out; have := NM.out; omega⟩⟩
    · have GF := Lib.hid G6.out
      clear G6
      go_wp2_with fail
      go_ret
      refine ⟨os, ao, co, ?_, GF.out, ?_, OA.out, OM.out⟩
      · rw [CN.out]; rfl
      · rw [CN.out]; exact OV.out
set_option maxHeartbeats 1000000 in
theorem refutable_any (l : List Clk) (ms : List Lmt) (al am : Option Addr) (cl cm : Nat) (w : World) (henv : Env w l ms al am) :
    Calls Tryz.prog 23 #[.slice al l.length cl, .slice am ms.length cm] w (Grows w (.int .i64 (if cntS l ms = 0 then 0 else 8))) := by
  have BG := Lib.hid (refBegin_any l ms al am cl cm w henv)
  have RA : Hid (∀ W, Gr w W → Calls Tryz.prog 62 #[.slice al l.length cl, .slice am ms.length cm] W fun e w' => ∃ a c, e = .returned (.slice a (cntS l ms) c) ∧ Gr W w') := Lib.hid (fun W hW => (refAll_any l ms al am cl cm W (henv.gr hW)).mono (by
    rintro e w' ⟨os, a, c, rfl, hg, _, _, hm⟩
    have h3 := congrArg List.length hm
    rw [List.length_map, metL_len] at h3
    exact ⟨a, c, by rw [h3]; rfl, hg⟩))
  clear henv
  obtain ⟨N, hN⟩ : ∃ N, cntS l ms = N := ⟨_, rfl⟩
  rw [hN] at RA ⊢
  clear hN
  obtain ⟨R, hR⟩ : ∃ R : Int, (if N = 0 then 0 else 8) = R := ⟨_, rfl⟩
  rw [hR]
  have HR := Lib.hid hR
  clear hR
  go_enter Tryz.func23, Tryz.ntmps23
  go_wp2_with fail
  refine BG.out.mono ?_
  rintro e w1 ⟨rfl, hg1⟩
  have G1 := Lib.hid hg1
  clear hg1
  go_wp2_with fail
  refine (RA.out w1 G1.out).mono ?_
  rintro e w2 ⟨a, c, rfl, hg2⟩
  have G2 := Lib.hid (G1.out.trans hg2)
  clear hg2
  by_cases h0 : N = 0
  · have E : Hid (R = 0) := Lib.hid (by rw [← HR.out, if_pos h0])
    subst h0
    go_wp2_with fail
    go_ret
    exact ⟨by rw [E.out]; rfl, G2.out⟩
  · have q : decide (0 < N) = true := decide_eq_true (by omega)
    have E : Hid (R = 8) := Lib.hid (by rw [← HR.out, if_neg h0])
    clear h0
    go_wp2_with fail
    go_ret
    exact ⟨by rw [E.out]; rfl, G2.out⟩
end Go.Proofs.YtenehghpmnajpaaGreatDoor

/- Searches over a row of the graph with link.Order$1; the order in plain lists. -/
import Derived.Test.YtdjhnfopdlgliaaTeS
set_option linter.unusedVariables false
set_option linter.unusedSimpArgs false
namespace Go.Proofs.Ytdjhnfopdlgliaa
open Go.RowKit
open Classical

/-- All numbers of the lists are nodes. -/
def InG (n : Nat) (gs : List (List Int)) : Prop := ∀ g ∈ gs, ∀ y ∈ g, ∃ j : Nat, y = j ∧ j < n
theorem mem_compact {zs : List Int} {y : Int} (h : y ∈ Lib.compact zs) : y ∈ zs := by
  unfold Lib.compact Lib.compactUpTo at h
  obtain ⟨i, hi, rfl⟩ := List.mem_map.1 h
  have hi2 := List.mem_range.1 (List.mem_filter.1 hi).1
  rw [getElem!_pos zs.toArray i (by simpa using hi2)]
  simp
theorem rawG_in (n : Nat) : ∀ (ls : List Lnk), (∀ l ∈ ls, LnkIn n l) → InG n (rawG n ls) := by
  have : ∀ (ls : List Lnk) (g : List (List Int)), InG n g → (∀ l ∈ ls, LnkIn n l) → InG n (ls.foldl addE g) := by
    intro ls
    induction ls with
    | nil => intro g hg _; exact hg
    | cons l ls ih =>
      intro g hg hl
      rw [List.foldl_cons]
      refine ih _ ?_ (fun x hx => hl x (List.mem_cons_of_mem _ hx))
      intro r hr y hy
      unfold addE at hr
      rcases List.mem_or_eq_of_mem_set hr with q | q
      · exact hg r q y hy
      · subst q
        rcases List.mem_append.1 hy with z | z
        · rw [List.getD_eq_getElem?_getD] at z
          by_cases hlt : l.node.toNat < g.length
          · rw [List.getElem?_eq_getElem hlt] at z
            exact hg _ (List.getElem_mem hlt) y z
          · rw [List.getElem?_eq_none (by omega)] at z
            cases z
        · obtain ⟨_, j, _, _, h3, h4⟩ := hl l (List.mem_cons_self ..)
          rw [List.mem_singleton.1 z]
          exact ⟨j, h3, h4⟩
  intro ls h
  exact this ls _ (fun g hg y hy => by rw [List.mem_replicate] at hg; rw [hg.2] at hy; cases hy) h
theorem norm_in {n : Nat} {gs : List (List Int)} (h : InG n gs) : InG n (gs.map normG) := by
  intro r hr y hy
  obtain ⟨g, hg, rfl⟩ := List.mem_map.1 hr
  have := mem_compact hy
  unfold srt at this
  rw [List.mem_mergeSort] at this
  exact h g hg y this
theorem graph_in {ts : Tr} {pn cn : St} {gs : List (List Int)} (h : graphT ts pn cn = .ok gs) : InG ts.length gs ∧ gs.length = ts.length := by
  unfold graphT at h
  split at h
  · cases h
  · rename_i ls hl
    injection h with h
    subst h
    exact ⟨norm_in (rawG_in _ _ (allT_in ts.length (Nat.le_refl _) ls hl)), by rw [List.length_map, rawG_len]⟩
def notDone (done : List Bool) (y : Int) : Bool := !(done.getD y.toNat false)
theorem ord1_any (done : List Bool) (y Q0 DB : Nat) (w : World) (hq : w.cell? ⟨Q0, 0, none⟩ = some (.slice (some ⟨DB, 0, none⟩) done.length done.length)) (hd : Row w DB 4 (bools done)) (hy : y < done.length) :
    Calls Try.prog 16 #[.int .i64 y, .pointer (some ⟨Q0, 0, none⟩)] w (Grows w (.bool (notDone done y))) := by
  have c0 := hd.bat y hy
  have e : notDone done (y : Int) = !done[y] := by unfold notDone; rw [Int.toNat_natCast, List.getD_eq_getElem?_getD, List.getElem?_eq_getElem hy]; rfl
  have E := Lib.hid e
  have hi : (y : Int) < done.length := by omega
  have h1 := has_of_cell hq
  have h2 := has_of_cell c0
  clear e hd
  go_enter Try.func16, Try.ntmps16
  go_wp2_with fail
  go_ret
  exact ⟨ret_bool E.out.symm, Gr.refl _⟩
set_option maxRecDepth 100000 in
set_option maxHeartbeats 4000000 in
theorem idxI_any (ys : List Int) (done : List Bool) (a : Option Addr) (cap Q0 DB : Nat) (w : World) (h : SlOf 1 RI w a ys) (hf : ys.length ≤ 1000000) (hy : ∀ y ∈ ys, ∃ j : Nat, y = j ∧ j < done.length) (hq : w.cell? ⟨Q0, 0, none⟩ = some (.slice (some ⟨DB, 0, none⟩) done.length done.length)) (hd : Row w DB 4 (bools done)) :
    Calls Try.prog 27 #[.slice a ys.length cap, .func (.func 16) #[] #[.pointer (some ⟨Q0, 0, none⟩)]] w fun e w' => ∃ i : Int, e = .returned (.int .i64 i) ∧ (decide (0 ≤ i) = ys.any (notDone done)) ∧ Gr w w' := by
  have H := Lib.hid h
  have HY := Lib.hid hy
  have HQ := Lib.hid hq
  have HD := Lib.hid hd
  clear h hy hq hd
  go_enter Try.func27, Try.ntmps27
  go_wp2_with fail
  go_loopw [8] (fun i wr => ∃ k : Nat, k ≤ ys.length ∧ i = .int .i64 k ∧ (∀ j (hj : j < k) (hjl : j < ys.length), notDone done ys[j] = false) ∧ Gr w wr) (fun i _ => ys.length - (intOf i).toNat)
  case atStart => exact ⟨0, Nat.zero_le _, rfl, fun j h => absurd h (by omega), Gr.refl _⟩
  case round =>
    obtain ⟨k, hk, rfl, hall, hg⟩ := hrel
    have HA := Lib.hid hall
    have HG := Lib.hid hg
    clear hall hg
    by_cases hlt : k < ys.length
    · obtain ⟨b, o, rfl, c0, _⟩ := (H.out.giI HG.out).one k hlt
      obtain ⟨y, hyk, hyl⟩ := HY.out ys[k] (List.getElem_mem hlt)
      have HYK := Lib.hid hyk
      rw [hyk] at c0
      have hh := has_of_cell c0
      have hc := ord1_any done y Q0 DB wr (cell_gr HG.out HQ.out) (HD.out.gr HG.out) hyl
      have HC := Lib.hid hc
      clear hc hyk
      by_cases hv : notDone done (y : Int) = true
      · rw [hv] at HC
        have V := Lib.hid hv
        clear hv
        go_wp2_with (go_at_call 16; refine HC.out.mono ?_; rintro e w' ⟨rfl, O, d, rfl⟩)
        go_ret
        refine ⟨_, rfl, ?_, HG.out.xt _ _⟩
        rw [show decide (0 ≤ (k : Int)) = true by simp, eq_comm, List.any_eq_true]
        exact ⟨_, List.getElem_mem hlt, by rw [HYK.out]; exact V.out⟩
      · rw [Bool.not_eq_true] at hv
        rw [hv] at HC
        have V := Lib.hid hv
        clear hv
        go_wp2_with (go_at_call 16; refine HC.out.mono ?_; rintro e w' ⟨rfl, O, d, rfl⟩)
        go_roundw
        case rel =>
          refine ⟨k + 1, by omega, by go_num, fun j hj hjl => ?_, HG.out.xt _ _⟩
          by_cases e : j = k
          · subst e; rw [HYK.out]; exact V.out
          · exact HA.out j (by omega) hjl
        case measure => simp [intOf]; omega
    · go_wp2_with fail
      go_ret
      refine ⟨_, rfl, ?_, HG.out⟩
      rw [eq_comm, show decide ((0:Int) ≤ -1) = false by simp, List.any_eq_false]
      intro x hx
      obtain ⟨j, hj, rfl⟩ := List.getElem_of_mem hx
      simp [HA.out j (by omega) hj]
theorem conI_any (ys : List Int) (done : List Bool) (a : Option Addr) (cap Q0 DB : Nat) (w : World) (h : SlOf 1 RI w a ys) (hf : ys.length ≤ 1000000) (hy : ∀ y ∈ ys, ∃ j : Nat, y = j ∧ j < done.length) (hq : w.cell? ⟨Q0, 0, none⟩ = some (.slice (some ⟨DB, 0, none⟩) done.length done.length)) (hd : Row w DB 4 (bools done)) :
    Calls Try.prog 15 #[.slice a ys.length cap, .func (.func 16) #[] #[.pointer (some ⟨Q0, 0, none⟩)]] w (Grows w (.bool (ys.any (notDone done)))) := by
  have H := Lib.hid h
  have HY := Lib.hid hy
  have HQ := Lib.hid hq
  have HD := Lib.hid hd
  clear h hy hq hd
  go_enter Try.func15, Try.ntmps15
  go_wp2_with fail
  refine (idxI_any ys done a cap Q0 DB w H.out hf HY.out HQ.out HD.out).mono ?_
  rintro e w' ⟨x, rfl, hx, O, d, rfl⟩
  have X := Lib.hid hx
  clear hx
  go_wp2_with fail
  go_ret
  exact ⟨ret_bool X.out, (Gr.refl _).xt _ _⟩
/-! The order in plain lists. -/
def readyI (g : List (List Int)) (done : List Bool) (i : Nat) : Bool := !(done.getD i false) && !((g.getD i []).any (notDone done))
def nextI (g : List (List Int)) (done : List Bool) : Option Nat := (List.range g.length).find? (readyI g done)
def orderF (g : List (List Int)) : Nat → List Bool → List Int → Except Int (List Int)
  | 0, _, out => .ok out
  | f + 1, done, out => match nextI g done with
    | none => .error 10
    | some i => orderF g f (done.set i true) (out ++ [(i : Int)])
def orderT (ts : Tr) (pn cn : St) : Except Int (List Int) :=
  match graphT ts pn cn with
  | .error e => .error e
  | .ok g => orderF g g.length (List.replicate g.length false) []
end Go.Proofs.Ytdjhnfopdlgliaa

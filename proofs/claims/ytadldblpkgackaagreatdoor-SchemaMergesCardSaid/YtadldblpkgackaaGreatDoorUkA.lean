/- schema.Find. -/
import Derived.Test.YtadldblpkgackaaGreatDoorUcB
set_option linter.unusedVariables false
set_option linter.unusedSimpArgs false
namespace Go.Proofs.YtadldblpkgackaaGreatDoor
open Go.RowKit
open Classical

def FirstAt (o : Option Nat) (i : Int) : Prop := match o with | none => i = -1 | some k => i = k
def findC (l : List Sch) (c : St) : Option Nat := l.findIdx? (fun s => s.comp == c)
theorem find1_any (s : Sch) (c : St) (a : Option Addr) (n cap q0 : Nat) (w : World) (hq : w.cell? ⟨q0, 0, none⟩ = some (.string (bs c))) :
    Calls Tryz.prog 55 #[.agg #[.string (bs s.comp), .bool s.closed, .slice a n cap], .pointer (some ⟨q0, 0, none⟩)] w (Grows w (.bool (s.comp == c))) := by
  have hh := has_of_cell hq
  go_enter Tryz.func55, Tryz.ntmps55
  go_wp2_with fail
  go_ret
  exact ⟨rfl, (Gr.refl _).alloc _⟩
set_option maxRecDepth 100000 in
set_option maxHeartbeats 4000000 in
theorem idxFind_any (ts : List Sch) (a : Option Addr) (cap : Nat) (c : St) (q0 : Nat) (w : World) (h : SlOf 3 RSch w a ts) (hf : ts.length ≤ 1000000) (hq : w.cell? ⟨q0, 0, none⟩ = some (.string (bs c))) :
    Calls Tryz.prog 54 #[.slice a ts.length cap, .func (.func 55) #[] #[.pointer (some ⟨q0, 0, none⟩)]] w fun e w' => ∃ i : Int, e = .returned (.int .i64 i) ∧ FirstAt (findC ts c) i ∧ Gr w w' := by
  have H := Lib.hid h
  have HQ := Lib.hid hq
  clear h hq
  go_enter Tryz.func54, Tryz.ntmps54
  go_wp2_with fail
  go_loopw [8] (fun i wr => ∃ k : Nat, k ≤ ts.length ∧ i = .int .i64 k ∧ (∀ j (hj : j < k) (hjl : j < ts.length), (ts[j].comp == c) = false) ∧ Gr w wr) (fun i _ => ts.length - (intOf i).toNat)
  case atStart => exact ⟨0, Nat.zero_le _, rfl, fun j h => absurd h (by omega), Gr.refl _⟩
  case round =>
    obtain ⟨k, hk, rfl, hall, hg⟩ := hrel
    have HA := Lib.hid hall
    have HG := Lib.hid hg
    clear hall hg
    by_cases hlt : k < ts.length
    · obtain ⟨b, o, pa, pc, rfl, c0, c1, c2, _⟩ := schs_at (H.out.giC HG.out) k hlt
      obtain ⟨n, hn⟩ : ∃ n, n = ts[k] := ⟨_, rfl⟩
      have HN := Lib.hid hn
      rw [← hn] at c0 c1 c2
      clear hn
      have hh := has_of_cell c0
      have HC := Lib.hid (find1_any n c pa n.rules.length pc q0 wr (cell_gr HG.out HQ.out))
      by_cases hv : (n.comp == c) = true
      · rw [hv] at HC
        have V : Hid (findC ts c = some k) := Lib.hid (by
          unfold findC
          rw [List.findIdx?_eq_some_iff_getElem]
          exact ⟨hlt, by rw [← HN.out]; exact hv, fun j hj => by rw [HA.out j hj (by omega)]; simp⟩)
        clear hv
        go_wp2_with (go_at_call 55; refine HC.out.mono ?_; rintro e w' ⟨rfl, O, d, rfl⟩)
        go_ret
        exact ⟨_, rfl, by rw [V.out]; rfl, HG.out.xt _ _⟩
      · rw [Bool.not_eq_true] at hv
        rw [hv] at HC
        have V := Lib.hid hv
        clear hv
        go_wp2_with (go_at_call 55; refine HC.out.mono ?_; rintro e w' ⟨rfl, O, d, rfl⟩)
        go_roundw
        case rel =>
          refine ⟨k + 1, by omega, by go_num, fun j hj hjl => ?_, HG.out.xt _ _⟩
          by_cases e : j = k
          · subst e; rw [← HN.out]; exact V.out
          · exact HA.out j (by omega) hjl
        case measure => simp [intOf]; omega
    · have V : Hid (findC ts c = none) := Lib.hid (by
        unfold findC
        rw [List.findIdx?_eq_none_iff]
        intro x hx
        obtain ⟨j, hj, rfl⟩ := List.getElem_of_mem hx
        exact HA.out j (by omega) hj)
      go_wp2_with fail
      go_ret
      exact ⟨_, rfl, by rw [V.out]; rfl, HG.out⟩
theorem find_any (ts : List Sch) (a : Option Addr) (cap : Nat) (c : St) (w : World) (h : SlOf 3 RSch w a ts) (hf : ts.length ≤ 1000000) :
    Calls Tryz.prog 18 #[.slice a ts.length cap, .string (bs c)] w (Grows w (.tuple #[.int .i64 (((findC ts c).getD 0 : Nat) : Int), .bool (findC ts c).isSome])) := by
  have H := Lib.hid h
  clear h
  go_enter Tryz.func18, Tryz.ntmps18
  go_wp2_with fail
  refine (idxFind_any ts a cap c _ _ (H.out.giC ((Gr.refl _).alloc _)) hf ((Row.new w #[.string (bs c)] 9).cell 0 (by simp))).mono ?_
  rintro e w1 ⟨i, rfl, hi, hg⟩
  have G1 := Lib.hid (((Gr.refl w).alloc _).trans hg)
  clear hg
  cases hz : findC ts c with
  | none =>
    have HZ := Lib.hid hz
    rw [hz] at hi
    have hi2 : i = -1 := hi
    subst hi2
    clear hi hz
    go_wp2_with fail
    refine bodyPost_ret (v := .tuple #[.int .i64 0, .bool false]) (by simp [results, Tryz.results18, go_sem]; try rfl) rfl ?_
    exact ⟨by rw [HZ.out]; rfl, G1.out⟩
  | some k =>
    have HZ := Lib.hid hz
    rw [hz] at hi
    have hi2 : i = k := hi
    subst hi2
    have hk : k ≤ 1000000 := by
      unfold findC at hz
      rw [List.findIdx?_eq_some_iff_getElem] at hz
      obtain ⟨q, _⟩ := hz
      omega
    clear hi hz
    go_wp2_with fail
    refine bodyPost_ret (v := .tuple #[.int .i64 k, .bool true]) (by simp [results, Tryz.results18, go_sem]) rfl ?_
    exact ⟨by rw [HZ.out]; rfl, G1.out⟩
theorem find_some {l : List Sch} {c : St} : (findC l c).isSome = l.any (fun s => s.comp == c) := by
  unfold findC
  cases hz : l.findIdx? (fun s => s.comp == c) with
  | none =>
    rw [List.findIdx?_eq_none_iff] at hz
    rw [eq_comm, Option.isSome_none, List.any_eq_false]
    intro x hx
    simp [hz x hx]
  | some k =>
    rw [List.findIdx?_eq_some_iff_getElem] at hz
    obtain ⟨h, h2, _⟩ := hz
    rw [eq_comm, Option.isSome_some, List.any_eq_true]
    exact ⟨_, List.getElem_mem h, h2⟩
theorem find_at {l : List Sch} {c : St} {k : Nat} (h : findC l c = some k) : ∃ h : k < l.length, l[k].comp = c := by
  unfold findC at h
  rw [List.findIdx?_eq_some_iff_getElem] at h
  obtain ⟨h, h2, _⟩ := h
  exact ⟨h, by simpa using h2⟩
end Go.Proofs.YtadldblpkgackaaGreatDoor

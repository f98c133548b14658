/- Plain: plans there and back are equally long. Contract of the reference's SameSettings for equal lists. -/
import Derived.Test.YtenehghpmnajpaaDoorPtE
set_option linter.unusedVariables false
set_option linter.unusedSimpArgs false
namespace Go.Proofs.YtenehghpmnajpaaDoor
open Go.RowKit
open Classical

theorem dS_sym {l : List Clk} {cal : List Int → Bool} {y : List Int} (hy : SetOk l y) (hyc : cal y = true) : ∀ (k : Nat) (x : List Int), dS l cal y x = some (k : Int) → ∃ d, dS l cal x y = some d ∧ d ≤ k := by
  have Y := dS_ok hy hyc
  intro k
  induction k with
  | zero => intro x hx; have := Y.dist.only x hx; subst this; exact ⟨0, Y.dist.zero, by simp⟩
  | succ k ih =>
    intro x hx
    obtain ⟨m, t, q1, q2, q3⟩ := Y.dist.par x _ hx (by omega)
    have q1' : dS l cal y m = some (k : Int) := by rw [q1]; congr 1; omega
    obtain ⟨d, q4, q5⟩ := ih m q1'
    obtain ⟨mok, mcal⟩ := Y.ok m _ q1'
    obtain ⟨xok, xcal⟩ := Y.ok x _ hx
    have X := dS_ok xok xcal
    obtain ⟨u, hu, e⟩ := nb_sym q2 mok mcal
    rw [q3] at hu
    obtain ⟨c, c1, c2⟩ := X.dist.step x 0 u X.dist.zero hu
    rw [e] at c1
    have h0 := (dS_ok mok mcal).dist.nonneg y d q4
    obtain ⟨d3, q6, q7⟩ := dS_tri mok mcal xok xcal c1 d.toNat y (by rw [q4]; congr 1; omega)
    exact ⟨d3, q6, by omega⟩
theorem planN_sym {l : List Clk} {ms : List Lmt} {f t : List Int} (hf : SetOk l f) (ht : SetOk l t) {d : Int} (h : planN l ms f t = some d) : planN l ms t f = some d := by
  obtain ⟨c1, c2, hd⟩ := planN_calm h
  have h0 := (dS_ok ht c2).dist.nonneg f d hd
  obtain ⟨e, q1, q2⟩ := dS_sym ht c2 d.toNat f (by rw [hd]; congr 1; omega)
  have h1 := (dS_ok hf c1).dist.nonneg t e q1
  obtain ⟨d', q3, q4⟩ := dS_sym hf c1 e.toNat t (by rw [q1]; congr 1; omega)
  rw [hd] at q3
  cases q3
  unfold planN
  rw [if_pos (by rw [c1, c2]; rfl), q1]; congr 1; omega
set_option maxRecDepth 100000 in
set_option maxHeartbeats 1000000 in
theorem sameSettings_any (path : List (List Int)) (L : Nat) (ax ay : Option Addr) (cx cy : Nat) (w : World) (hx : PathAt w ax L path) (hy : PathAt w ay L path) (hL : L ≤ 16) (hlen : ∀ i (hi : i < path.length), path[i].length = L ∧ ∀ k (hk : k < path[i].length), Wide path[i][k]) (hn : path.length ≤ 5000) :
    Calls Tryd.prog 24 #[.slice ax path.length cx, .slice ay path.length cy] w (Grows w (.bool true)) := by
  have HX := Lib.hid hx
  have HY := Lib.hid hy
  have HL := Lib.hid hlen
  clear hx hy hlen
  have hlb : ((path.length : Int) != (path.length : Int)) = false := by simp
  go_enter Tryd.func24, Tryd.ntmps24
  go_wp2_with fail
  go_loopw [13] (fun i wr => ∃ k : Nat, k ≤ path.length ∧ i = .int .i64 k ∧ Gr w wr) (fun i _ => path.length - (intOf i).toNat)
  case atStart => exact ⟨0, Nat.zero_le _, rfl, Gr.refl _⟩
  case round =>
    obtain ⟨k, hk, rfl, hg⟩ := hrel
    have HG := Lib.hid hg
    by_cases hlt : k < path.length
    · obtain ⟨gx, B1, c1, rfl, q1, r1⟩ := HX.out.gr hg k hlt
      obtain ⟨gy, B2, c2, rfl, q2, r2⟩ := HY.out.gr hg k hlt
      obtain ⟨el, hw⟩ := HL.out k hlt
      have k2 : (k : Int) < path.length := by omega
      have s1 := r1.slI hw
      have s2 := r2.slI hw
      have IA : Hid (∀ W, Gr wr W → Calls Tryd.prog 20 #[.slice (some ⟨B1, 0, none⟩) L c1, .slice (some ⟨B2, 0, none⟩) L c2] W (Grows W (.bool true))) := Lib.hid (fun W hW => by
        have := ints_any path[k] path[k] (some ⟨B1, 0, none⟩) (some ⟨B2, 0, none⟩) c1 c2 W (s1.giI hW) (s2.giI hW) (by unfold Fit; omega) (by unfold Fit; omega)
        rwa [el, decide_eq_true rfl] at this)
      have h1 := has_of_cell q1
      have h2 := has_of_cell q2
      clear hg r1 r2 s1 s2 hw el
      go_wp2_with fail
      refine wp_region_grows (by kernel_rfl) (by kernel_rfl) ?_
      repeat (go_big_quiet_step (first | (go_at_call 20; exact calls_grows (IA.out _ ((Gr.refl _).xt _ _)))))
      refine wpQuiet_nil ?_
      rintro _ ⟨⟨O, d⟩, rfl⟩
      go_wp2_with fail
      go_roundw
      case rel => exact ⟨k + 1, by omega, by go_num, HG.out.xt _ _⟩
      case measure => simp [intOf]; omega
    · go_wp2_with fail
      go_ret
      exact ⟨rfl, HG.out⟩
end Go.Proofs.YtenehghpmnajpaaDoor

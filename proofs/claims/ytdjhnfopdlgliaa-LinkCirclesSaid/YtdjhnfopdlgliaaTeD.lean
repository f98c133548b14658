/- Searches over properties with tree.Check$1; tree.named, depth, walked. -/
import Derived.Test.YtdjhnfopdlgliaaTeC
set_option linter.unusedVariables false
set_option linter.unusedSimpArgs false
namespace Go.Proofs.Ytdjhnfopdlgliaa
open Go.RowKit
open Classical

/-- A tree as a value. -/
def TrV (v : Value) (a : Option Addr) (n c : Nat) : Prop := v = .agg #[.slice a n c]
theorem prps_at {w : World} {a : Option Addr} {ps : List Prp} (h : SlOf 2 RPrp w a ps) (k : Nat) (hk : k < ps.length) : ∃ b o, a = some ⟨b, o, none⟩ ∧ w.cell? ⟨b, o + k * 2, none⟩ = some (.string (bs ps[k].name)) ∧ w.cell? ⟨b, o + k * 2 + 1, none⟩ = some (.string (bs ps[k].val)) ∧ ps[k].name.length ≤ 9223372036854775807 ∧ ps[k].val.length ≤ 9223372036854775807 := by
  obtain ⟨b, o, e, ⟨c0, l0⟩, ⟨c1, l1⟩⟩ := h k hk
  exact ⟨b, o, e, c0, c1, l0, l1⟩
theorem nods_at {w : World} {a : Option Addr} {ts : Tr} (h : SlOf 3 RNod w a ts) (k : Nat) (hk : k < ts.length) : ∃ b o pa pc, a = some ⟨b, o, none⟩ ∧ w.cell? ⟨b, o + k * 3, none⟩ = some (.int .i64 ts[k].parent) ∧ w.cell? ⟨b, o + k * 3 + 1, none⟩ = some (.string (bs ts[k].name)) ∧ w.cell? ⟨b, o + k * 3 + 2, none⟩ = some (.slice pa ts[k].props.length pc) ∧ SlOf 2 RPrp w pa ts[k].props ∧ Fit ts[k].props.length ∧ Wide ts[k].parent ∧ ts[k].name.length ≤ 9223372036854775807 := by
  obtain ⟨b, o, e, ⟨c0, w0⟩, ⟨c1, l1⟩, ⟨pa, pc, c2, _, hf, hs⟩⟩ := h k hk
  exact ⟨b, o, pa, pc, e, c0, c1, c2, hs, hf, w0, l1⟩
theorem check1_any (n v : St) (w : World) (hf : v.length ≤ 9223372036854775807) :
    Calls Try.prog 30 #[.agg #[.string (bs n), .string (bs v)]] w (Grows w (.bool (decide (256 < v.length)))) := by
  go_enter Try.func30, Try.ntmps30
  go_wp2
  go_ret
  exact ⟨ret_bool (by rw [Bool.eq_iff_iff]; simp; try omega), (Gr.refl _).alloc _⟩
set_option maxHeartbeats 1000000 in
theorem idxPrp_any (ps : List Prp) (a : Option Addr) (cap : Nat) (w : World) (h : SlOf 2 RPrp w a ps) (hf : Fit ps.length) :
    Calls Try.prog 41 #[.slice a ps.length cap, .func (.func 30) #[] #[]] w fun e w' => ∃ i : Int, e = .returned (.int .i64 i) ∧ (decide (0 ≤ i) = ps.any (fun p => decide (256 < p.val.length))) ∧ Gr w w' := by
  unfold Fit at hf
  have H := Lib.hid h
  clear h
  go_enter Try.func41, Try.ntmps41
  go_wp2
  go_loopw [8] (fun i wr => ∃ k : Nat, k ≤ ps.length ∧ i = .int .i64 k ∧ (∀ j (hj : j < k) (hjl : j < ps.length), ¬ 256 < ps[j].val.length) ∧ Gr w wr) (fun i _ => ps.length - (intOf i).toNat)
  case atStart => exact ⟨0, Nat.zero_le _, rfl, fun j h => absurd h (by omega), Gr.refl _⟩
  case round =>
    obtain ⟨k, hk, rfl, hall, hg⟩ := hrel
    have HA := Lib.hid hall
    have HG := Lib.hid hg
    clear hall hg
    by_cases hlt : k < ps.length
    · obtain ⟨b, o, rfl, c0, c1, l0, l1⟩ := prps_at (H.out.gr RPrp.mono HG.out) k hlt
      by_cases hq : 256 < ps[k].val.length
      · have Q := Lib.hid hq
        have E : (decide (256 < ps[k].val.length)) = true := by simp [hq]
        clear hq
        go_wp2_with (go_at_call 30; refine (check1_any _ _ _ l1).mono ?_; rintro e w' ⟨rfl, O, d, rfl⟩)
        go_ret
        refine ⟨_, rfl, ?_, HG.out.xt _ _⟩
        rw [eq_comm, show decide (0 ≤ (k : Int)) = true by simp, List.any_eq_true]
        exact ⟨_, List.getElem_mem hlt, by simpa using Q.out⟩
      · have Q := Lib.hid hq
        have E : (decide (256 < ps[k].val.length)) = false := by simp [hq]
        clear hq
        go_wp2_with (go_at_call 30; refine (check1_any _ _ _ l1).mono ?_; rintro e w' ⟨rfl, O, d, rfl⟩)
        go_roundw
        case rel =>
          refine ⟨k + 1, by omega, by go_num, fun j hj hjl => ?_, HG.out.xt _ _⟩
          by_cases e : j = k
          · subst e; exact Q.out
          · exact HA.out j (by omega) hjl
        case measure => simp [intOf]; omega
    · go_wp2
      go_ret
      refine ⟨_, rfl, ?_, HG.out⟩
      rw [eq_comm, show decide ((0:Int) ≤ -1) = false by simp, List.any_eq_false]
      intro x hx
      obtain ⟨j, hj, rfl⟩ := List.getElem_of_mem hx
      simpa using HA.out j (by omega) hj
theorem conPrp_any (ps : List Prp) (a : Option Addr) (cap : Nat) (w : World) (h : SlOf 2 RPrp w a ps) (hf : Fit ps.length) :
    Calls Try.prog 29 #[.slice a ps.length cap, .func (.func 30) #[] #[]] w (Grows w (.bool (ps.any (fun p => decide (256 < p.val.length))))) := by
  have H := Lib.hid h
  have HF := Lib.hid hf
  clear h hf
  go_enter Try.func29, Try.ntmps29
  go_wp2_with fail
  refine (idxPrp_any ps a cap _ H.out HF.out).mono ?_
  rintro e w' ⟨x, rfl, hx, O, d, rfl⟩
  have X := Lib.hid hx
  clear hx
  go_wp2_with fail
  go_ret
  exact ⟨ret_bool X.out, (Gr.refl _).xt _ _⟩
/-- Each node's parent stands before it. -/
def OkPar (ts : Tr) : Prop := ∀ i (h : i < ts.length), 0 < i → 0 ≤ ts[i].parent ∧ ts[i].parent < i
theorem par_get {ts : Tr} {u : Nat} (h : u < ts.length) : par ts (u : Int) = ts[u].parent := by
  unfold par; rw [List.getD_eq_getElem?_getD, Int.toNat_natCast, List.getElem?_eq_getElem h]; rfl
theorem depN_eq {ts : Tr} (hp : OkPar ts) : ∀ (f g u : Nat), u ≤ f → u ≤ g → u < ts.length → depN ts f (u : Int) = depN ts g (u : Int) := by
  intro f
  induction f with
  | zero => intro g u h1 h2 h3; obtain rfl : u = 0 := by omega
            cases g <;> simp [depN]
  | succ f ih =>
    intro g u h1 h2 h3
    by_cases h0 : u = 0
    · subst h0; cases g <;> simp [depN]
    · obtain ⟨g, rfl⟩ : ∃ g', g = g' + 1 := ⟨g - 1, by omega⟩
      obtain ⟨p0, p1⟩ := hp u h3 (by omega)
      obtain ⟨q, hq⟩ : ∃ q : Nat, ts[u].parent = q := ⟨ts[u].parent.toNat, by omega⟩
      rw [depN, depN, if_pos (by omega), if_pos (by omega), par_get h3, hq, ih g q (by omega) (by omega) (by omega)]
def dep (ts : Tr) (u : Nat) : Nat := depN ts u (u : Int)
theorem dep_zero (ts : Tr) : dep ts 0 = 0 := rfl
theorem dep_succ {ts : Tr} (hp : OkPar ts) {u q : Nat} (h : u < ts.length) (h0 : 0 < u) (hq : ts[u].parent = q) : dep ts u = dep ts q + 1 := by
  have := hp u h h0
  obtain ⟨v, rfl⟩ : ∃ v, u = v + 1 := ⟨u - 1, by omega⟩
  unfold dep
  rw [depN, if_pos (by omega), par_get h, hq, depN_eq hp v q q (by omega) (by omega) (by omega)]
theorem dep_le {ts : Tr} (hp : OkPar ts) : ∀ u, u < ts.length → dep ts u ≤ u := by
  intro u
  induction u using Nat.strongRecOn with
  | _ u ih =>
    intro h
    by_cases h0 : u = 0
    · subst h0; simp [dep_zero]
    · obtain ⟨p0, p1⟩ := hp u h (by omega)
      obtain ⟨q, hq⟩ : ∃ q : Nat, ts[u].parent = q := ⟨ts[u].parent.toNat, by omega⟩
      rw [dep_succ hp h (by omega) hq]
      have := ih q (by omega) (by omega)
      omega
set_option maxHeartbeats 1000000 in
theorem depth_any (ts : Tr) (a : Option Addr) (cap i : Nat) (w : World) (h : SlOf 3 RNod w a ts) (hf : ts.length ≤ 1000000) (hp : OkPar ts) (hi : i < ts.length) :
    Calls Try.prog 33 #[.agg #[.slice a ts.length cap], .int .i64 i] w (Grows w (.int .i64 (dep ts i : Nat))) := by
  have H := Lib.hid h
  have HP := Lib.hid hp
  clear h hp
  go_enter Try.func33, Try.ntmps33
  go_wp2_with fail
  go_loop [1, 5] (fun u n => ∃ k m : Nat, k < ts.length ∧ u = .int .i64 k ∧ n = .int .i64 m ∧ m + dep ts k = dep ts i) (fun u _ => (intOf u).toNat)
  case atStart => exact ⟨i, 0, hi, rfl, rfl, by omega⟩
  case round =>
    obtain ⟨k, m, hk, rfl, rfl, hs⟩ := hrel
    by_cases h0 : 0 < k
    · obtain ⟨b, o, pa, pc, rfl, c0, c1, c2, _⟩ := nods_at H.out k hk
      obtain ⟨p0, p1⟩ := HP.out k hk h0
      obtain ⟨q, hq⟩ : ∃ q : Nat, ts[k].parent = q := ⟨ts[k].parent.toNat, by omega⟩
      have D := dep_succ HP.out hk h0 hq
      have L := dep_le HP.out i hi
      rw [hq] at c0
      have HS := Lib.hid hs
      have hh := has_of_cell c0
      have hD := Lib.hid D
      have hQ := Lib.hid hq
      clear hs D hq c1 c2
      rw [hQ.out] at p1
      have hm : m + 1 ≤ 1000000 := by have := HS.out; have := hD.out; omega
      go_wp2_with fail
      go_round
      case rel => exact ⟨q, m + 1, by omega, rfl, by go_num, by have := HS.out; have := hD.out; omega⟩
      case measure => simp [intOf]; omega
    · obtain rfl : k = 0 := by omega
      have D := dep_zero ts
      rw [D] at hs
      have HS := Lib.hid hs
      clear hs D
      go_wp2_with fail
      go_ret
      exact ⟨ret_int (by have := HS.out; omega), (Gr.refl _).alloc _⟩
end Go.Proofs.Ytdjhnfopdlgliaa

/- label.Phandle; link.arguments. -/
import Derived.Test.YtdjhnfopdlgliaaTeL
set_option linter.unusedVariables false
set_option linter.unusedSimpArgs false
namespace Go.Proofs.Ytdjhnfopdlgliaa
open Go.RowKit
open Classical

theorem phan_lt {ts : Tr} {p : Int} {k : Nat} (h : phan ts p = some k) : k < ts.length := by
  unfold phan at h
  split at h
  · exact (List.findIdx?_eq_some_iff_getElem.1 h).1
  · cases h
theorem GoodT.props {ts : Tr} (h : GoodT ts) : ∀ n ∈ ts, n.props.length ≤ 24 := fun n hn => by
  obtain ⟨j, hj, rfl⟩ := List.getElem_of_mem hn
  exact (h.big j hj).1
set_option maxRecDepth 100000 in
set_option maxHeartbeats 4000000 in
theorem phandle_any (ts : Tr) (a : Option Addr) (cap : Nat) (p : Int) (w : World) (h : SlOf 3 RNod w a ts) (hc : chkT ts = 0) :
    Calls Try.prog 20 #[.agg #[.slice a ts.length cap], .int .i64 p] w
      (Grows w (.tuple #[.int .i64 (((phan ts p).getD 0 : Nat) : Int), .bool (phan ts p).isSome])) := by
  have H := Lib.hid h
  have G := Lib.hid (good_of hc)
  have h120 := (good_of hc).len.2
  clear h
  go_enter Try.func20, Try.ntmps20
  go_wp2_with fail
  have RB := Lib.hid (Row.new w #[.slice a ts.length cap] 32)
  obtain ⟨W0, hW0⟩ : ∃ W : World, Hid (W = w.alloc (.cells #[.slice a ts.length cap] 32)) := ⟨_, Lib.hid rfl⟩
  have RP := Lib.hid (Row.new W0 #[.int .i64 p] 3)
  obtain ⟨W1, hW1⟩ : ∃ W : World, Hid (W = W0.alloc (.cells #[.int .i64 p] 3)) := ⟨_, Lib.hid rfl⟩
  have z0 : Hid (W0.heap.size = w.heap.size + 1) := Lib.hid (by rw [hW0.out]; simp)
  rw [← hW0.out] at RB
  rw [← hW1.out, z0.out] at RP
  have G0 : Hid (Gr w W0) := Lib.hid (by rw [hW0.out]; exact (Gr.refl _).alloc _)
  have G01 : Hid (Gr W0 W1) := Lib.hid (by rw [hW1.out]; exact (Gr.refl _).alloc _)
  have RB1 := Lib.hid (RB.out.gr G01.out)
  have G1 := Lib.hid (G0.out.trans G01.out)
  rw [← hW0.out, ← hW1.out]
  obtain ⟨Q0, hQ0⟩ : ∃ N : Nat, Hid (w.heap.size + 1 = N) := ⟨_, Lib.hid rfl⟩
  rw [hQ0.out] at RP ⊢
  obtain ⟨P0, hP0⟩ : ∃ N : Nat, Hid (w.heap.size = N) := ⟨_, Lib.hid rfl⟩
  rw [hP0.out] at RB1 ⊢
  have b0 : W1.cell? ⟨P0, 0, none⟩ = some (.slice a ts.length cap) := RB1.out.cell 0 (by simp)
  clear hW0 hW1 RB z0 G0 G01 hQ0 hP0
  go_wp2_with fail
  refine (treeCheck_any ts a cap W1 (H.out.gr RNod.mono G1.out) (by unfold Fit; omega)).mono ?_
  rintro e w1 ⟨rfl, hg1⟩
  rw [hc]
  have G2 := Lib.hid (G1.out.trans hg1)
  have c0 : w1.cell? ⟨P0, 0, none⟩ = some (.slice a ts.length cap) := (RB1.out.gr hg1).cell 0 (by simp)
  have c1 : w1.cell? ⟨Q0, 0, none⟩ = some (.int .i64 p) := (RP.out.gr hg1).cell 0 (by simp)
  clear hg1 G1 RB1 RP hc b0
  have hh := has_of_cell c0
  have hh1 := has_of_cell c1
  by_cases h1 : 1 ≤ p ∧ p ≤ 1048576
  · have k1 : decide (p < 1) = false := by simp; omega
    have k2 : decide (1048576 < p) = false := by simp; omega
    obtain ⟨q, rfl⟩ : ∃ q : Nat, p = q := ⟨p.toNat, by omega⟩
    have F : Hid (phan ts (q : Int) = ts.findIdx? (fun n => n.props.contains ⟨phS, cell4 q⟩)) := Lib.hid (by unfold phan; rw [if_pos h1, Int.toNat_natCast])
    have hq : q < 4294967296 := by omega
    clear h1
    go_wp2_with fail
    refine (idxNod_any ts a cap q Q0 w1 (H.out.gr RNod.mono G2.out) (by omega) (fun n hn => by have := G.out.props n hn; omega) hq c1).mono ?_
    rintro e w2 ⟨i, rfl, hi, hg2⟩
    have G3 := Lib.hid (G2.out.trans hg2)
    clear hg2 c0 c1 hh hh1
    cases hz : ts.findIdx? (fun n => n.props.contains ⟨phS, cell4 q⟩) with
    | none =>
      rw [hz] at hi F
      obtain rfl : i = -1 := hi
      have mx : max (-1 : Int) 0 = 0 := rfl
      clear hz
      go_wp2_with fail
      refine bodyPost_ret (v := .tuple #[.int .i64 0, .bool false]) (by simp [results, Try.results20, go_sem]) rfl ?_
      exact ⟨by rw [F.out]; rfl, G3.out⟩
    | some k =>
      rw [hz] at hi F
      obtain rfl : i = k := hi
      have mx : max (k : Int) 0 = k := by omega
      have mx2 : (if (k : Int) < 0 then (0 : Int) else k) = k := by rw [if_neg (by omega)]
      have kk : decide (0 ≤ (k : Int)) = true := by simp
      clear hz
      go_wp2_with fail
      refine bodyPost_ret (v := .tuple #[.int .i64 k, .bool true]) (by simp [results, Try.results20, go_sem]) rfl ?_
      exact ⟨by rw [F.out]; rfl, G3.out⟩
  · have F : Hid (phan ts p = none) := Lib.hid (by unfold phan; rw [if_neg h1])
    by_cases h2 : p < 1
    · have k1 : decide (p < 1) = true := by simp; omega
      clear h1 h2
      go_wp2_with fail
      refine bodyPost_ret (v := .tuple #[.int .i64 0, .bool false]) (by simp [results, Try.results20, go_sem]) rfl ?_
      exact ⟨by rw [F.out]; rfl, G2.out⟩
    · have k1 : decide (p < 1) = false := by simp; omega
      have k2 : decide (1048576 < p) = true := by simp; omega
      clear h1 h2
      go_wp2_with fail
      refine bodyPost_ret (v := .tuple #[.int .i64 0, .bool false]) (by simp [results, Try.results20, go_sem]) rfl ?_
      exact ⟨by rw [F.out]; rfl, G2.out⟩
theorem cells_bound : ∀ (v : St), ∀ z ∈ cellsL v, 0 ≤ z ∧ z < 4294967296
  | [] => by simp [cellsL]
  | [_] => by simp [cellsL]
  | [_, _] => by simp [cellsL]
  | [_, _, _] => by simp [cellsL]
  | a :: b :: c :: d :: r => by
    intro z hz
    rw [cellsL, List.mem_cons] at hz
    rcases hz with rfl | hz
    · have := a.toNat_lt; have := b.toNat_lt; have := c.toNat_lt; have := d.toNat_lt
      unfold num4; omega
    · exact cells_bound r z hz
theorem cells_wide (v : St) : ∀ z ∈ cellsL v, Wide z := fun z hz => by have := cells_bound v z hz; unfold Wide; omega
theorem ints_at {w : World} {base : Nat} {v : Value} {zs : List Int} (h : w.ownsRow base 3 1 v zs.length (nums zs)) (hw : ∀ z ∈ zs, Wide z) : ∃ a c, v = .slice a zs.length c ∧ zs.length ≤ c ∧ SlOf 1 RI w a zs := by
  rcases Nat.eq_zero_or_pos zs.length with e | e
  · have : zs = [] := List.eq_nil_of_length_eq_zero e
    subst this
    obtain ⟨a, c, e⟩ := owns_slice h
    exact ⟨a, c, e, Nat.zero_le _, SlOf.nil _ _ _ _⟩
  · obtain ⟨g, cap, e1, h1, _, hc⟩ := owns_cell h e
    refine ⟨_, cap, e1, h1, fun k hk => ⟨g, 0, rfl, ?_⟩⟩
    rw [Nat.zero_add, Nat.mul_one]
    exact ⟨by rw [hc k (by omega)]; simp [nums, hk], hw _ (List.getElem_mem hk)⟩
def argV (o : Option Int) : Value := .tuple #[.int .i64 (o.getD 0), .bool o.isSome]
set_option maxRecDepth 100000 in
set_option maxHeartbeats 4000000 in
theorem arguments_any (ts : Tr) (a : Option Addr) (cap i : Nat) (cn : St) (w : World) (h : SlOf 3 RNod w a ts) (hc : chkT ts = 0) (hi : i < ts.length) :
    Calls Try.prog 21 #[.agg #[.slice a ts.length cap], .int .i64 i, .string (bs cn)] w (Grows w (argV (argsN ts i cn))) := by
  have H := Lib.hid h
  have HC := Lib.hid hc
  have G := Lib.hid (good_of hc)
  have NE : Hid (ts.getD i default = ts[i]) := Lib.hid (by rw [List.getD_eq_getElem?_getD, List.getElem?_eq_getElem hi]; rfl)
  have LV : Hid (∀ v, valP ts[i].props cn = some v → v.length ≤ 256) := Lib.hid fun v hv => by
    unfold valP at hv
    cases hz : ts[i].props.find? (fun p => p.name == cn) with
    | none => rw [hz] at hv; cases hv
    | some p => rw [hz] at hv; cases hv; exact (G.out.big i hi).2 p (List.mem_of_find?_eq_some hz)
  clear h hc
  go_enter Try.func21, Try.ntmps21
  go_wp2_with fail
  refine (treeValue_any ts a cap i cn _ (H.out.gr RNod.mono ((Gr.refl _).alloc _)) HC.out hi).mono ?_
  rintro e w1 ⟨rfl, O, d, rfl⟩
  cases hz : valP ts[i].props cn with
  | none =>
    have R : Hid (argsN ts i cn = some 0) := Lib.hid (by unfold argsN; rw [NE.out, hz])
    clear hz
    go_wp2_with fail
    refine bodyPost_ret (v := .tuple #[.int .i64 0, .bool true]) (by simp [results, Try.results21, go_sem]) rfl ?_
    exact ⟨by rw [R.out]; rfl, ((Gr.refl _).alloc _).xt _ _⟩
  | some v =>
    have lv := LV.out v hz
    have R : Hid (argsN ts i cn = if cellsOk v = true ∧ (cellsL v).length = 1 ∧ (cellsL v).getD 0 0 ≤ 8 then some ((cellsL v).getD 0 0) else none) := Lib.hid (by unfold argsN; rw [NE.out, hz])
    clear hz
    go_wp2_with fail
    refine (cells_any v _ (by omega)).mono ?_
    intro e w2 hgv
    unfold GivesCells at hgv
    by_cases hok : cellsOk v = true
    · rw [if_pos hok] at hgv
      obtain ⟨x, rfl, ho, hg⟩ := hgv
      have OK := Lib.hid hok
      have GG : Hid (Gr w w2) := Lib.hid ((((Gr.refl _).alloc _).xt _ _).trans hg)
      obtain ⟨xa, xc, rfl, _, hsl⟩ := ints_at ho (cells_wide v)
      have SL := Lib.hid hsl
      clear hg hok ho hsl
      by_cases hl : (cellsL v).length = 1
      · obtain ⟨z, hz⟩ : ∃ z, cellsL v = [z] := List.length_eq_one_iff.1 hl
        have BZ := cells_bound v z (by rw [hz]; simp)
        rw [hz] at SL R ⊢
        obtain ⟨b, o, rfl, c0, _⟩ := SL.out.one 0 (by simp)
        simp only [List.getElem_cons_zero, Nat.add_zero] at c0
        by_cases h8 : z ≤ 8
        · have R2 : Hid (argsN ts i cn = some z) := Lib.hid (by rw [R.out, if_pos ⟨OK.out, rfl, by simpa using h8⟩]; rfl)
          have kb : decide (8 < z) = false := by simp; omega
          clear h8 hl hz
          go_wp2_with fail
          refine bodyPost_ret (v := .tuple #[.int .i64 z, .bool true]) (by simp [results, Try.results21, go_sem]) rfl ?_
          exact ⟨by rw [R2.out]; rfl, GG.out⟩
        · have R2 : Hid (argsN ts i cn = none) := Lib.hid (by rw [R.out, if_neg (by rintro ⟨_, _, q⟩; exact h8 (by simpa using q))])
          have kb : decide (8 < z) = true := by simp; omega
          clear h8 hl hz
          go_wp2_with fail
          refine bodyPost_ret (v := .tuple #[.int .i64 0, .bool false]) (by simp [results, Try.results21, go_sem]) rfl ?_
          exact ⟨by rw [R2.out]; rfl, GG.out⟩
      · have R2 : Hid (argsN ts i cn = none) := Lib.hid (by rw [R.out, if_neg (by rintro ⟨_, q, _⟩; exact hl q)])
        have kb : (((cellsL v).length : Int) != 1) = true := by rw [bne_iff_ne]; omega
        clear hl
        go_wp2_with fail
        refine bodyPost_ret (v := .tuple #[.int .i64 0, .bool false]) (by simp [results, Try.results21, go_sem]) rfl ?_
        exact ⟨by rw [R2.out]; rfl, GG.out⟩
    · rw [if_neg hok] at hgv
      obtain ⟨rfl, hg⟩ := hgv
      have R2 : Hid (argsN ts i cn = none) := Lib.hid (by rw [R.out, if_neg (by simp [hok])])
      have GG : Hid (Gr w w2) := Lib.hid ((((Gr.refl _).alloc _).xt _ _).trans hg)
      clear hg hok
      go_wp2_with fail
      refine bodyPost_ret (v := .tuple #[.int .i64 0, .bool false]) (by simp [results, Try.results21, go_sem]) rfl ?_
      exact ⟨by rw [R2.out]; rfl, GG.out⟩
end Go.Proofs.Ytdjhnfopdlgliaa

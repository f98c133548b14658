/- Lemmas and contracts for the proof of ConformRepairs (several texts in one, printed by wip/tools/pack.py): TeM VcC VcD VcE. -/
import Derived.Test.YtbpkndiecomggaaGreatDoorCr1pk
set_option maxRecDepth 100000
set_option maxHeartbeats 16000000
set_option linter.unusedVariables false
set_option linter.unusedSimpArgs false
namespace Go.Proofs.YtbpkndiecomggaaGreatDoor
open Go.RowKit
open Classical
theorem GoodT.props {ts : Tr} (h : GoodT ts) : ∀ n ∈ ts, n.props.length ≤ 24 := fun n hn => by
  obtain ⟨j, hj, rfl⟩ := List.getElem_of_mem hn
  exact (h.big j hj).1
theorem phandle_any (ts : Tr) (a : Option Addr) (cap : Nat) (p : Int) (w : World) (h : SlOf 3 RNod w a ts) (hc : chkT ts = 0) :
    Calls Tryz.prog 132 #[.agg #[.slice a ts.length cap], .int .i64 p] w
      (Grows w (.tuple #[.int .i64 (((phan ts p).getD 0 : Nat) : Int), .bool (phan ts p).isSome])) := by
  have H := Lib.hid h
  have G := Lib.hid (good_of hc)
  have h120 := (good_of hc).len.2
  clear h
  go_enter Tryz.func132, Tryz.ntmps132
  go_wp2_with fail
  have RB := Lib.hid (Row.new w #[.slice a ts.length cap] 29)
  obtain ⟨W0, hW0⟩ : ∃ W : World, Hid (W = w.alloc (.cells #[.slice a ts.length cap] 29)) := ⟨_, Lib.hid rfl⟩
  have RP := Lib.hid (Row.new W0 #[.int .i64 p] 3)
  obtain ⟨W1, hW1⟩ : ∃ W : World, Hid (W = W0.alloc (.cells #[.int .i64 p] 3)) := ⟨_, Lib.hid rfl⟩
  have z0 : Hid (W0.heap.size = w.heap.size + 1) := Lib.hid (by rw [hW0.out]; simp)
  rw [← hW0.out] at RB
  rw [← hW1.out, z0.out] at RP
  have G0 : Hid (Gr w W0) := Lib.hid (by rw [hW0.out]; exact (Gr.refl _).alloc _)
  have G01 : Hid (Gr W0 W1) := Lib.hid (by rw [hW1.out]; exact (Gr.refl _).alloc _)
  have RB1 := Lib.hid (RB.out.gr G01.out)
  have G1 := Lib.hid (G0.out.trans G01.out)
  rw [← hW0.out, ← hW1.out]
  obtain ⟨Q0, hQ0⟩ : ∃ N : Nat, Hid (w.heap.size + 1 = N) := ⟨_, Lib.hid rfl⟩
  rw [hQ0.out] at RP ⊢
  obtain ⟨P0, hP0⟩ : ∃ N : Nat, Hid (w.heap.size = N) := ⟨_, Lib.hid rfl⟩
  rw [hP0.out] at RB1 ⊢
  have b0 : W1.cell? ⟨P0, 0, none⟩ = some (.slice a ts.length cap) := RB1.out.cell 0 (by simp)
  clear hW0 hW1 RB z0 G0 G01 hQ0 hP0
  go_wp2_with fail
  refine (treeCheck_any ts a cap W1 (H.out.gr RNod.mono G1.out) (by unfold Fit; omega)).mono ?_
  rintro e w1 ⟨rfl, hg1⟩
  rw [hc]
  have G2 := Lib.hid (G1.out.trans hg1)
  have c0 : w1.cell? ⟨P0, 0, none⟩ = some (.slice a ts.length cap) := (RB1.out.gr hg1).cell 0 (by simp)
  have c1 : w1.cell? ⟨Q0, 0, none⟩ = some (.int .i64 p) := (RP.out.gr hg1).cell 0 (by simp)
  clear hg1 G1 RB1 RP hc b0
  have hh := has_of_cell c0
  have hh1 := has_of_cell c1
  by_cases h1 : 1 ≤ p ∧ p ≤ 1048576
  · have k1 : decide (p < 1) = false := by simp; omega
    have k2 : decide (1048576 < p) = false := by simp; omega
    obtain ⟨q, rfl⟩ : ∃ q : Nat, p = q := ⟨p.toNat, by omega⟩
    have F : Hid (phan ts (q : Int) = ts.findIdx? (fun n => n.props.contains ⟨phS, cell4 q⟩)) := Lib.hid (by unfold phan; rw [if_pos h1, Int.toNat_natCast])
    have hq : q < 4294967296 := by omega
    clear h1
    go_wp2_with fail
    refine (idxNod_any ts a cap q Q0 w1 (H.out.gr RNod.mono G2.out) (by omega) (fun n hn => by have := G.out.props n hn; omega) hq c1).mono ?_
    rintro e w2 ⟨i, rfl, hi, hg2⟩
    have G3 := Lib.hid (G2.out.trans hg2)
    clear hg2 c0 c1 hh hh1
    cases hz : ts.findIdx? (fun n => n.props.contains ⟨phS, cell4 q⟩) with
    | none =>
      rw [hz] at hi F
      obtain rfl : i = -1 := hi
      have mx : max (-1 : Int) 0 = 0 := rfl
      clear hz
      go_wp2_with fail
      refine bodyPost_ret (v := .tuple #[.int .i64 0, .bool false]) (by simp [results, Tryz.results132, go_sem]) rfl ?_
      exact ⟨by rw [F.out]; rfl, G3.out⟩
    | some k =>
      rw [hz] at hi F
      obtain rfl : i = k := hi
      have mx : max (k : Int) 0 = k := by omega
      have mx2 : (if (k : Int) < 0 then (0 : Int) else k) = k := by rw [if_neg (by omega)]
      have kk : decide (0 ≤ (k : Int)) = true := by simp
      clear hz
      go_wp2_with fail
      refine bodyPost_ret (v := .tuple #[.int .i64 k, .bool true]) (by simp [results, Tryz.results132, go_sem]) rfl ?_
      exact ⟨by rw [F.out]; rfl, G3.out⟩
  · have F : Hid (phan ts p = none) := Lib.hid (by unfold phan; rw [if_neg h1])
    by_cases h2 : p < 1
    · have k1 : decide (p < 1) = true := by simp; omega
      clear h1 h2
      go_wp2_with fail
      refine bodyPost_ret (v := .tuple #[.int .i64 0, .bool false]) (by simp [results, Tryz.results132, go_sem]) rfl ?_
      exact ⟨by rw [F.out]; rfl, G2.out⟩
    · have k1 : decide (p < 1) = false := by simp; omega
      have k2 : decide (1048576 < p) = true := by simp; omega
      clear h1 h2
      go_wp2_with fail
      refine bodyPost_ret (v := .tuple #[.int .i64 0, .bool false]) (by simp [results, Tryz.results132, go_sem]) rfl ?_
      exact ⟨by rw [F.out]; rfl, G2.out⟩
theorem cells_bound : ∀ (v : St), ∀ z ∈ cellsL v, 0 ≤ z ∧ z < 4294967296
  | [] => by simp [cellsL]
  | [_] => by simp [cellsL]
  | [_, _] => by simp [cellsL]
  | [_, _, _] => by simp [cellsL]
  | a :: b :: c :: d :: r => by
    intro z hz
    rw [cellsL, List.mem_cons] at hz
    rcases hz with rfl | hz
    · have := a.toNat_lt; have := b.toNat_lt; have := c.toNat_lt; have := d.toNat_lt
      unfold num4; omega
    · exact cells_bound r z hz
theorem cells_wide (v : St) : ∀ z ∈ cellsL v, Wide z := fun z hz => by have := cells_bound v z hz; unfold Wide; omega
theorem ints_at {w : World} {base : Nat} {v : Value} {zs : List Int} (h : w.ownsRow base 3 1 v zs.length (nums zs)) (hw : ∀ z ∈ zs, Wide z) : ∃ a c, v = .slice a zs.length c ∧ zs.length ≤ c ∧ SlOf 1 RI w a zs := by
  rcases Nat.eq_zero_or_pos zs.length with e | e
  · have : zs = [] := List.eq_nil_of_length_eq_zero e
    subst this
    obtain ⟨a, c, e⟩ := owns_slice h
    exact ⟨a, c, e, Nat.zero_le _, SlOf.nil _ _ _ _⟩
  · obtain ⟨g, cap, e1, h1, _, hc⟩ := owns_cell h e
    refine ⟨_, cap, e1, h1, fun k hk => ⟨g, 0, rfl, ?_⟩⟩
    rw [Nat.zero_add, Nat.mul_one]
    exact ⟨by rw [hc k (by omega)]; simp [nums, hk], hw _ (List.getElem_mem hk)⟩
def valsL : List St := [[97, 0], [111, 107, 97, 121, 0], [102, 105, 114, 115, 116, 0, 115, 101, 99, 111, 110, 100, 0], [119, 105, 116, 104, 32, 34, 113, 117, 111, 116, 101, 34, 32, 97, 110, 100, 32, 92, 0], [116, 97, 98, 9, 0], [97, 98, 0, 0]]
theorem valsL_ok : valsL.all (fun s => decide (s.length ≤ 31)) = true := by kernel_rfl
theorem cellsS_len (ns : List Nat) : (cellsS ns).length = 4 * ns.length := by
  unfold cellsS
  induction ns with
  | nil => rfl
  | cons n ns ih => rw [List.flatMap_cons, List.length_append, ih]; simp [cell4]; omega
theorem value_any (w : World) (b len : Nat) (h : Tp w b len) :
    Calls Tryz.prog 20 #[.pointer (some ⟨b, 0, none⟩)] w fun e w' => ∃ s : St, s.length ≤ 100 ∧ e = .returned (.string (bs s)) ∧ Mv b len w w' := by
  have H := Lib.hid h
  have hb := h.has
  obtain ⟨i0, hi, hz0, hz1, hz2⟩ := info_parts infoInt
  obtain ⟨j0, hj, hy0, hy1, hy2⟩ := info_parts infoU8
  clear h
  go_enter Tryz.func20, Tryz.ntmps20
  go_wp2_with fail
  refine (nM_any w b len 7 H.out (by omega) (by omega)).mono ?_
  rintro e w1 ⟨x, rfl, ⟨x0, x1⟩, hm⟩
  have M1 := Lib.hid hm
  have T1 := Lib.hid (hm.tp H.out)
  clear hm
  have B1 := M1.out.size
  rcases (show x = 0 ∨ x = 1 ∨ x = 2 ∨ x = 3 ∨ x = 4 ∨ x = 5 ∨ x = 6 by omega) with rfl | rfl | rfl | rfl | rfl | rfl | rfl
  · go_wp2_with fail
    go_ret
    exact ⟨[], by simp, rfl, M1.out⟩
  · have N0 := Lib.hid (M1.out.size)
    go_wp2_with fail
    refine (rangeW_any w1 b len 1 3 T1.out (by omega) (by omega) (by omega)).mono ?_
    rintro e w2 ⟨c, rfl, ⟨c0, c1⟩, hm2⟩
    have M2 := Lib.hid (M1.out.trans H.out.has hm2)
    clear hm2
    go_wp2_with fail
    go_loopw [3, 4] (fun v i wr => ∃ (m : Int) (ns : List Nat), i = .int .i64 m ∧ 0 ≤ m ∧ m + ns.length ≤ 3 ∧ 1 ≤ m + ns.length ∧ (∀ n ∈ ns, n < 4294967296) ∧ wr.ownsRow w.heap.size 3 1 v ns.length (nums (ns.map (fun n : Nat => (n : Int)))) ∧ Mv b len w wr) (fun _ i _ => (intOf i).toNat)
    case atStart => exact ⟨c, [], rfl, by omega, by simp; omega, by simp; omega, by simp, World.ownsRow_nil _ _ _ _, M2.out⟩
    case round =>
      obtain ⟨m, ns, rfl, m0, m1, m2, hns, ho, hm⟩ := hrel
      obtain ⟨va, vc, rfl⟩ := owns_slice ho
      have OW := Lib.hid ho
      have MV := Lib.hid hm
      have TW := Lib.hid (hm.tp H.out)
      have NS := Lib.hid hns
      clear hns ho hm
      obtain ⟨nl, hnl⟩ : ∃ n, ns.length = n := ⟨_, rfl⟩
      have NL := Lib.hid hnl
      rw [hnl] at m1 m2 OW ⊢
      by_cases hlt : 0 < m
      · clear hnl
        go_wp2_with fail
        refine (tNumber_any wr b len TW.out).mono ?_
        rintro e w3 ⟨n, hn, rfl, hm3⟩
        have O3 := Lib.hid ((Mv.owns hm3 OW.out hb).alloc (.cells #[.int .i64 n] 3))
        have M3 := Lib.hid (MV.out.trans H.out.has hm3)
        have NR := Lib.hid (row_cells (Row.new w3 #[.int .i64 n] 3))
        have S3 := Lib.hid M3.out.size
        clear hm3
        go_wp2_with (at_builtin; refine wpList_append_own _ rfl _ _ 22 rfl w.heap.size 3 i0 (.int .i64 0) 1 8 Tryz.underlying22 hi hz0 hz1 hz2 rfl (by decide) _ nl (nums (ns.map (fun n : Nat => (n : Int)))) rfl O3.out ⟨w3.heap.size, 0, none⟩ 1 1 [.int .i64 n] rfl rfl NR.out (by intro u hu; rw [List.mem_singleton.1 hu]; rfl) (by unfold maxLen; omega) (by omega) (by have := S3.out; simp; omega) ?_; intro v' wz hown' hgrow hnil; have HOz := Lib.hid hown'; have HGz := Lib.hid hgrow; clear hown' hgrow hnil)
        go_roundw
        case rel =>
          refine ⟨m - 1, ns ++ [n], rfl, by omega, by rw [List.length_append, NL.out]; simp; omega, by rw [List.length_append, NL.out]; simp; omega, fun z hz => ?_, ?_, (M3.out.alloc _).grown HGz.out (fun j e => (owns_block O3.out j e).1)⟩
          · rcases List.mem_append.1 hz with q | q
            · exact NS.out z q
            · rw [List.mem_singleton.1 q]; exact hn
          · have := HOz.out
            rw [List.length_append, NL.out]
            simpa [nums] using this
        case measure => simp [intOf]; omega
      · obtain rfl : m = 0 := by omega
        rw [← hnl] at OW ⊢
        obtain ⟨a2, c2, e2, hc2, hs2⟩ := ints_at (zs := ns.map (fun n : Nat => (n : Int))) (by rw [List.length_map]; exact OW.out) (by intro z hz; obtain ⟨n, hn, rfl⟩ := List.mem_map.1 hz; have := NS.out n hn; unfold Wide; omega)
        rw [List.length_map] at e2 hc2
        cases e2
        have SL := Lib.hid hs2
        clear hs2
        have hnl2 := hnl
        go_wp2_with fail
        have GC := growCells_any ns va vc wr SL.out NS.out (by omega) (by omega)
        rw [hnl] at GC
        refine GC.mono ?_
        rintro e w4 ⟨rfl, hg4⟩
        have M4 := Lib.hid (MV.out.gr hg4)
        clear hg4
        go_wp2_with fail
        go_ret
        exact ⟨cellsS ns, by rw [cellsS_len]; omega, rfl, M4.out⟩
  · have N0 := Lib.hid (M1.out.size)
    go_wp2_with fail
    refine (rangeW_any w1 b len 1 3 T1.out (by omega) (by omega) (by omega)).mono ?_
    rintro e w2 ⟨c, rfl, ⟨c0, c1⟩, hm2⟩
    have M2 := Lib.hid (M1.out.trans H.out.has hm2)
    clear hm2
    go_wp2_with fail
    go_loopw [3, 4] (fun v i wr => ∃ (m : Int) (ns : List Nat), i = .int .i64 m ∧ 0 ≤ m ∧ m + ns.length ≤ 3 ∧ 1 ≤ m + ns.length ∧ (∀ n ∈ ns, n < 4294967296) ∧ wr.ownsRow w.heap.size 3 1 v ns.length (nums (ns.map (fun n : Nat => (n : Int)))) ∧ Mv b len w wr) (fun _ i _ => (intOf i).toNat)
    case atStart => exact ⟨c, [], rfl, by omega, by simp; omega, by simp; omega, by simp, World.ownsRow_nil _ _ _ _, M2.out⟩
    case round =>
      obtain ⟨m, ns, rfl, m0, m1, m2, hns, ho, hm⟩ := hrel
      obtain ⟨va, vc, rfl⟩ := owns_slice ho
      have OW := Lib.hid ho
      have MV := Lib.hid hm
      have TW := Lib.hid (hm.tp H.out)
      have NS := Lib.hid hns
      clear hns ho hm
      obtain ⟨nl, hnl⟩ : ∃ n, ns.length = n := ⟨_, rfl⟩
      have NL := Lib.hid hnl
      rw [hnl] at m1 m2 OW ⊢
      by_cases hlt : 0 < m
      · clear hnl
        go_wp2_with fail
        refine (tNumber_any wr b len TW.out).mono ?_
        rintro e w3 ⟨n, hn, rfl, hm3⟩
        have O3 := Lib.hid ((Mv.owns hm3 OW.out hb).alloc (.cells #[.int .i64 n] 3))
        have M3 := Lib.hid (MV.out.trans H.out.has hm3)
        have NR := Lib.hid (row_cells (Row.new w3 #[.int .i64 n] 3))
        have S3 := Lib.hid M3.out.size
        clear hm3
        go_wp2_with (at_builtin; refine wpList_append_own _ rfl _ _ 22 rfl w.heap.size 3 i0 (.int .i64 0) 1 8 Tryz.underlying22 hi hz0 hz1 hz2 rfl (by decide) _ nl (nums (ns.map (fun n : Nat => (n : Int)))) rfl O3.out ⟨w3.heap.size, 0, none⟩ 1 1 [.int .i64 n] rfl rfl NR.out (by intro u hu; rw [List.mem_singleton.1 hu]; rfl) (by unfold maxLen; omega) (by omega) (by have := S3.out; simp; omega) ?_; intro v' wz hown' hgrow hnil; have HOz := Lib.hid hown'; have HGz := Lib.hid hgrow; clear hown' hgrow hnil)
        go_roundw
        case rel =>
          refine ⟨m - 1, ns ++ [n], rfl, by omega, by rw [List.length_append, NL.out]; simp; omega, by rw [List.length_append, NL.out]; simp; omega, fun z hz => ?_, ?_, (M3.out.alloc _).grown HGz.out (fun j e => (owns_block O3.out j e).1)⟩
          · rcases List.mem_append.1 hz with q | q
            · exact NS.out z q
            · rw [List.mem_singleton.1 q]; exact hn
          · have := HOz.out
            rw [List.length_append, NL.out]
            simpa [nums] using this
        case measure => simp [intOf]; omega
      · obtain rfl : m = 0 := by omega
        rw [← hnl] at OW ⊢
        obtain ⟨a2, c2, e2, hc2, hs2⟩ := ints_at (zs := ns.map (fun n : Nat => (n : Int))) (by rw [List.length_map]; exact OW.out) (by intro z hz; obtain ⟨n, hn, rfl⟩ := List.mem_map.1 hz; have := NS.out n hn; unfold Wide; omega)
        rw [List.length_map] at e2 hc2
        cases e2
        have SL := Lib.hid hs2
        clear hs2
        have hnl2 := hnl
        go_wp2_with fail
        have GC := growCells_any ns va vc wr SL.out NS.out (by omega) (by omega)
        rw [hnl] at GC
        refine GC.mono ?_
        rintro e w4 ⟨rfl, hg4⟩
        have M4 := Lib.hid (MV.out.gr hg4)
        clear hg4
        go_wp2_with fail
        go_ret
        exact ⟨cellsS ns, by rw [cellsS_len]; omega, rfl, M4.out⟩
  · go_wp2_with fail
    have RX : Hid (Row (w1.alloc (.cells #[.string ⟨#[97, 0]⟩, .string ⟨#[111, 107, 97, 121, 0]⟩, .string ⟨#[102, 105, 114, 115, 116, 0, 115, 101, 99, 111, 110, 100, 0]⟩, .string ⟨#[119, 105, 116, 104, 32, 34, 113, 117, 111, 116, 101, 34, 32, 97, 110, 100, 32, 92, 0]⟩, .string ⟨#[116, 97, 98, 9, 0]⟩, .string ⟨#[97, 98, 0, 0]⟩] 9)) w1.heap.size 9 (strV valsL)) := Lib.hid (Row.new w1 #[.string ⟨#[97, 0]⟩, .string ⟨#[111, 107, 97, 121, 0]⟩, .string ⟨#[102, 105, 114, 115, 116, 0, 115, 101, 99, 111, 110, 100, 0]⟩, .string ⟨#[119, 105, 116, 104, 32, 34, 113, 117, 111, 116, 101, 34, 32, 97, 110, 100, 32, 92, 0]⟩, .string ⟨#[116, 97, 98, 9, 0]⟩, .string ⟨#[97, 98, 0, 0]⟩] 9)
    obtain ⟨W, hW⟩ : ∃ W : World, Hid (W = w1.alloc (.cells #[.string ⟨#[97, 0]⟩, .string ⟨#[111, 107, 97, 121, 0]⟩, .string ⟨#[102, 105, 114, 115, 116, 0, 115, 101, 99, 111, 110, 100, 0]⟩, .string ⟨#[119, 105, 116, 104, 32, 34, 113, 117, 111, 116, 101, 34, 32, 97, 110, 100, 32, 92, 0]⟩, .string ⟨#[116, 97, 98, 9, 0]⟩, .string ⟨#[97, 98, 0, 0]⟩] 9)) := ⟨_, Lib.hid rfl⟩
    have GW : Hid (Gr w1 W) := Lib.hid (by rw [hW.out]; exact (Gr.refl _).alloc _)
    rw [← hW.out] at RX ⊢
    clear hW
    refine (nM_any W b len 6 (T1.out.gr GW.out) (by omega) (by omega)).mono ?_
    rintro e w2 ⟨x, rfl, ⟨x0, x1⟩, hm⟩
    have MV := Lib.hid ((M1.out.gr GW.out).trans H.out.has hm)
    have RY := Lib.hid (hm.row RX.out (by omega))
    obtain ⟨k, rfl⟩ := Int.eq_ofNat_of_zero_le x0
    have hk : k < valsL.length := by simp [valsL]; omega
    have c0 := RY.out.cell k (by simpa [strV] using hk)
    rw [strV_get hk] at c0
    have hh := has_of_cell c0
    have k9 : (k : Int) < 6 := by omega
    have MEM := Lib.hid (List.all_eq_true.1 valsL_ok _ (List.getElem_mem hk))
    obtain ⟨s, hs⟩ : ∃ s, valsL[k] = s := ⟨_, rfl⟩
    rw [hs] at c0 MEM
    clear hm hs x0 x1
    go_wp2_with fail
    go_ret
    exact ⟨s, by have := MEM.out; simp at this; omega, rfl, MV.out⟩
  · go_wp2_with fail
    go_ret
    exact ⟨[100, 105, 115, 97, 98, 108, 101, 100, 0], by simp, rfl, M1.out⟩
  · go_wp2_with fail
    refine (nM_any w1 b len 9 T1.out (by omega) (by omega)).mono ?_
    rintro e w2 ⟨c, rfl, ⟨c0, c1⟩, hm2⟩
    have M2 := Lib.hid (M1.out.trans H.out.has hm2)
    clear hm2
    go_wp2_with fail
    go_loopw [5, 6] (fun v i wr => ∃ (m : Int) (l : List Int), i = .int .i64 m ∧ 0 ≤ m ∧ m + l.length ≤ 8 ∧ (∀ z ∈ l, 0 ≤ z ∧ z ≤ 255) ∧ (l = [] → v = .slice none 0 0) ∧ wr.ownsRow w.heap.size 5 1 v l.length (u8s l) ∧ Mv b len w wr) (fun _ i _ => (intOf i).toNat)
    case atStart => exact ⟨c, [], rfl, by omega, by simp; omega, by simp, fun _ => rfl, World.ownsRow_nil _ _ _ _, M2.out⟩
    case round =>
      obtain ⟨m, l, rfl, m0, m1, hl, hv0, ho, hm⟩ := hrel
      obtain ⟨va, vc, rfl⟩ := owns_slice ho
      have OW := Lib.hid ho
      have MV := Lib.hid hm
      have TW := Lib.hid (hm.tp H.out)
      have LS := Lib.hid hl
      have V0 := Lib.hid hv0
      clear hl ho hm hv0
      obtain ⟨nl, hnl⟩ : ∃ n, l.length = n := ⟨_, rfl⟩
      have NL := Lib.hid hnl
      rw [hnl] at m1 OW V0 ⊢
      by_cases hlt : 0 < m
      · clear hnl
        go_wp2_with fail
        refine (nM_any wr b len 256 TW.out (by omega) (by omega)).mono ?_
        rintro e w3 ⟨y, rfl, ⟨y0, y1⟩, hm3⟩
        have O3 := Lib.hid (Mv.owns hm3 OW.out hb)
        have M3 := Lib.hid (MV.out.trans H.out.has hm3)
        have T3 := Lib.hid (hm3.tp TW.out)
        clear hm3
        go_wp2_with fail
        have RX : Hid (Row (w3.alloc (.cells #[.int .i64 0, .int .i64 1, .int .i64 65, .int .i64 255, .int .i64 y] 3)) w3.heap.size 3 (nums [0, 1, 65, 255, y])) := Lib.hid (Row.new w3 #[.int .i64 0, .int .i64 1, .int .i64 65, .int .i64 255, .int .i64 y] 3)
        have GA := Lib.hid ((Gr.refl w3).alloc (.cells #[.int .i64 0, .int .i64 1, .int .i64 65, .int .i64 255, .int .i64 y] 3))
        have TA := Lib.hid (T3.out.gr GA.out)
        have ALL : ∀ z ∈ [0, 1, 65, 255, y], 0 ≤ z ∧ z ≤ 255 := by
          intro z hz
          simp only [List.mem_cons, List.not_mem_nil, or_false] at hz
          omega
        refine (pickM_any _ b len TA.out w3.heap.size 5 (fun x => 0 ≤ x ∧ x ≤ 255) (by omega) (by omega) (by have := T3.out.has; omega) (fun k hk => ?_)).mono ?_
        · have hk2 : k < [0, 1, 65, 255, y].length := hk
          refine ⟨_, RX.out.iat k hk2, ALL _ (List.getElem_mem hk2)⟩
        rintro e w4 ⟨z, rfl, ⟨z0, z1⟩, hm4⟩
        have O4 := Lib.hid ((Mv.owns hm4 (Gr.owns O3.out GA.out) hb).alloc (.cells #[.int .u8 z] 5))
        have M4 := Lib.hid ((M3.out.gr GA.out).trans H.out.has hm4)
        have NR := Lib.hid (row_cells (Row.new w4 #[.int .u8 z] 5))
        have S4 := Lib.hid M4.out.size
        clear hm4
        have zm : z % 256 = z := Int.emod_eq_of_lt z0 (by omega)
        go_wp2_with (at_builtin; refine wpList_append_own _ rfl _ _ 95 rfl w.heap.size 5 j0 (.int .u8 0) 1 1 Tryz.underlying95 hj hy0 hy1 hy2 rfl (by decide) _ nl (u8s l) rfl O4.out ⟨w4.heap.size, 0, none⟩ 1 1 [.int .u8 z] rfl rfl NR.out (by intro u hu; rw [List.mem_singleton.1 hu]; rfl) (by unfold maxLen; omega) (by omega) (by have := S4.out; simp; omega) ?_; intro v' wz hown' hgrow hnil; have HOz := Lib.hid hown'; have HGz := Lib.hid hgrow; clear hown' hgrow hnil)
        go_roundw
        case rel =>
          refine ⟨m - 1, l ++ [z], rfl, by omega, by rw [List.length_append, NL.out]; simp; omega, fun u hu => ?_, fun e => by simp at e, ?_, (M4.out.alloc _).grown HGz.out (fun j e => (owns_block O4.out j e).1)⟩
          · rcases List.mem_append.1 hu with q | q
            · exact LS.out u q
            · rw [List.mem_singleton.1 q]; exact ⟨z0, z1⟩
          · have := HOz.out
            rw [List.length_append, NL.out]
            simpa [u8s] using this
        case measure => simp [intOf]; omega
      · obtain rfl : m = 0 := by omega
        by_cases hl0 : l = []
        · have e := V0.out hl0
          cases e
          have hcv : (convert 95 9 (.slice none 0 0)).run Tryz.prog wr = .ok (.string (bs [])) wr := run_convert_bytes_nil (P := Tryz.prog) wr 95 5 Tryz.underlying95 Tryz.underlying5 0 0 9 Tryz.underlying9
          go_wp2_with fail
          go_ret
          exact ⟨[], by simp, rfl, MV.out⟩
        · have hpos : 0 < nl := by rw [← hnl]; exact List.length_pos_iff.2 hl0
          obtain ⟨g, cp, e1, _, _, hc⟩ := owns_cell OW.out hpos
          cases e1
          have hcv := run_convert_bytes_arg (P := Tryz.prog) wr 95 5 Tryz.underlying95 Tryz.underlying5 g 0 nl vc l (by omega)
            (fun i hi => by
              rw [Nat.zero_add, hc i (by omega)]
              have hl : i < l.length := by omega
              unfold u8s
              rw [List.getElem?_map, List.getElem?_eq_getElem hl, List.getD_eq_getElem?_getD, List.getElem?_eq_getElem hl]
              rfl) 9 Tryz.underlying9
          rw [show strOfNums l = bs (l.map (fun x => UInt8.ofNat x.toNat)) from rfl] at hcv
          obtain ⟨sx, hsx⟩ : ∃ sx : St, l.map (fun x => UInt8.ofNat x.toNat) = sx := ⟨_, rfl⟩
          have hlen : sx.length ≤ 100 := by rw [← hsx, List.length_map]; omega
          rw [hsx] at hcv
          clear hc OW V0 hsx
          go_wp2_with fail
          refine bodyPost_ret (v := .string (bs sx)) (by simp [results, Tryz.results20, go_sem]) rfl ?_
          exact ⟨sx, hlen, rfl, MV.out⟩
  · go_wp2_with fail
    refine (nM_any w1 b len 9 T1.out (by omega) (by omega)).mono ?_
    rintro e w2 ⟨c, rfl, ⟨c0, c1⟩, hm2⟩
    have M2 := Lib.hid (M1.out.trans H.out.has hm2)
    clear hm2
    go_wp2_with fail
    go_loopw [5, 6] (fun v i wr => ∃ (m : Int) (l : List Int), i = .int .i64 m ∧ 0 ≤ m ∧ m + l.length ≤ 8 ∧ (∀ z ∈ l, 0 ≤ z ∧ z ≤ 255) ∧ (l = [] → v = .slice none 0 0) ∧ wr.ownsRow w.heap.size 5 1 v l.length (u8s l) ∧ Mv b len w wr) (fun _ i _ => (intOf i).toNat)
    case atStart => exact ⟨c, [], rfl, by omega, by simp; omega, by simp, fun _ => rfl, World.ownsRow_nil _ _ _ _, M2.out⟩
    case round =>
      obtain ⟨m, l, rfl, m0, m1, hl, hv0, ho, hm⟩ := hrel
      obtain ⟨va, vc, rfl⟩ := owns_slice ho
      have OW := Lib.hid ho
      have MV := Lib.hid hm
      have TW := Lib.hid (hm.tp H.out)
      have LS := Lib.hid hl
      have V0 := Lib.hid hv0
      clear hl ho hm hv0
      obtain ⟨nl, hnl⟩ : ∃ n, l.length = n := ⟨_, rfl⟩
      have NL := Lib.hid hnl
      rw [hnl] at m1 OW V0 ⊢
      by_cases hlt : 0 < m
      · clear hnl
        go_wp2_with fail
        refine (nM_any wr b len 256 TW.out (by omega) (by omega)).mono ?_
        rintro e w3 ⟨y, rfl, ⟨y0, y1⟩, hm3⟩
        have O3 := Lib.hid (Mv.owns hm3 OW.out hb)
        have M3 := Lib.hid (MV.out.trans H.out.has hm3)
        have T3 := Lib.hid (hm3.tp TW.out)
        clear hm3
        go_wp2_with fail
        have RX : Hid (Row (w3.alloc (.cells #[.int .i64 0, .int .i64 1, .int .i64 65, .int .i64 255, .int .i64 y] 3)) w3.heap.size 3 (nums [0, 1, 65, 255, y])) := Lib.hid (Row.new w3 #[.int .i64 0, .int .i64 1, .int .i64 65, .int .i64 255, .int .i64 y] 3)
        have GA := Lib.hid ((Gr.refl w3).alloc (.cells #[.int .i64 0, .int .i64 1, .int .i64 65, .int .i64 255, .int .i64 y] 3))
        have TA := Lib.hid (T3.out.gr GA.out)
        have ALL : ∀ z ∈ [0, 1, 65, 255, y], 0 ≤ z ∧ z ≤ 255 := by
          intro z hz
          simp only [List.mem_cons, List.not_mem_nil, or_false] at hz
          omega
        refine (pickM_any _ b len TA.out w3.heap.size 5 (fun x => 0 ≤ x ∧ x ≤ 255) (by omega) (by omega) (by have := T3.out.has; omega) (fun k hk => ?_)).mono ?_
        · have hk2 : k < [0, 1, 65, 255, y].length := hk
          refine ⟨_, RX.out.iat k hk2, ALL _ (List.getElem_mem hk2)⟩
        rintro e w4 ⟨z, rfl, ⟨z0, z1⟩, hm4⟩
        have O4 := Lib.hid ((Mv.owns hm4 (Gr.owns O3.out GA.out) hb).alloc (.cells #[.int .u8 z] 5))
        have M4 := Lib.hid ((M3.out.gr GA.out).trans H.out.has hm4)
        have NR := Lib.hid (row_cells (Row.new w4 #[.int .u8 z] 5))
        have S4 := Lib.hid M4.out.size
        clear hm4
        have zm : z % 256 = z := Int.emod_eq_of_lt z0 (by omega)
        go_wp2_with (at_builtin; refine wpList_append_own _ rfl _ _ 95 rfl w.heap.size 5 j0 (.int .u8 0) 1 1 Tryz.underlying95 hj hy0 hy1 hy2 rfl (by decide) _ nl (u8s l) rfl O4.out ⟨w4.heap.size, 0, none⟩ 1 1 [.int .u8 z] rfl rfl NR.out (by intro u hu; rw [List.mem_singleton.1 hu]; rfl) (by unfold maxLen; omega) (by omega) (by have := S4.out; simp; omega) ?_; intro v' wz hown' hgrow hnil; have HOz := Lib.hid hown'; have HGz := Lib.hid hgrow; clear hown' hgrow hnil)
        go_roundw
        case rel =>
          refine ⟨m - 1, l ++ [z], rfl, by omega, by rw [List.length_append, NL.out]; simp; omega, fun u hu => ?_, fun e => by simp at e, ?_, (M4.out.alloc _).grown HGz.out (fun j e => (owns_block O4.out j e).1)⟩
          · rcases List.mem_append.1 hu with q | q
            · exact LS.out u q
            · rw [List.mem_singleton.1 q]; exact ⟨z0, z1⟩
          · have := HOz.out
            rw [List.length_append, NL.out]
            simpa [u8s] using this
        case measure => simp [intOf]; omega
      · obtain rfl : m = 0 := by omega
        by_cases hl0 : l = []
        · have e := V0.out hl0
          cases e
          have hcv : (convert 95 9 (.slice none 0 0)).run Tryz.prog wr = .ok (.string (bs [])) wr := run_convert_bytes_nil (P := Tryz.prog) wr 95 5 Tryz.underlying95 Tryz.underlying5 0 0 9 Tryz.underlying9
          go_wp2_with fail
          go_ret
          exact ⟨[], by simp, rfl, MV.out⟩
        · have hpos : 0 < nl := by rw [← hnl]; exact List.length_pos_iff.2 hl0
          obtain ⟨g, cp, e1, _, _, hc⟩ := owns_cell OW.out hpos
          cases e1
          have hcv := run_convert_bytes_arg (P := Tryz.prog) wr 95 5 Tryz.underlying95 Tryz.underlying5 g 0 nl vc l (by omega)
            (fun i hi => by
              rw [Nat.zero_add, hc i (by omega)]
              have hl : i < l.length := by omega
              unfold u8s
              rw [List.getElem?_map, List.getElem?_eq_getElem hl, List.getD_eq_getElem?_getD, List.getElem?_eq_getElem hl]
              rfl) 9 Tryz.underlying9
          rw [show strOfNums l = bs (l.map (fun x => UInt8.ofNat x.toNat)) from rfl] at hcv
          obtain ⟨sx, hsx⟩ : ∃ sx : St, l.map (fun x => UInt8.ofNat x.toNat) = sx := ⟨_, rfl⟩
          have hlen : sx.length ≤ 100 := by rw [← hsx, List.length_map]; omega
          rw [hsx] at hcv
          clear hc OW V0 hsx
          go_wp2_with fail
          refine bodyPost_ret (v := .string (bs sx)) (by simp [results, Tryz.results20, go_sem]) rfl ?_
          exact ⟨sx, hlen, rfl, MV.out⟩
def GivesVT (base n : Nat) (w : World) (e : Ending) (w' : World) : Prop := ∃ (v : Value) (ms : List NM), e = .returned (.agg #[v]) ∧ TrAt base w' v ms ∧ VB (ms.map NM.n) ∧ ms.length = n ∧ Gr w w'
theorem with_any (base : Nat) (ms : List NM) (a : Option Addr) (n cap : Nat) (s nm val : St) (w : World) (h : TrAt base w (.slice a n cap) ms) (hv : VB (ms.map NM.n)) (hbs : base ≤ w.heap.size) (hm : nm ∈ namesV) (hval : val.length ≤ 256) (hx : OkX ⟨nm, val⟩) :
    Calls Tryz.prog 37 #[.agg #[.slice a n cap], .string (bs s), .string (bs nm), .string (bs val)] w (GivesVT base n w) := by
  have nl := h.sl.1
  have HT := Lib.hid h
  have HV := Lib.hid hv
  have HBS := Lib.hid hbs
  have NL := Lib.hid nl
  have SL := Lib.hid h.sl.2
  clear h hv hbs nl
  obtain ⟨P0, hP0⟩ : ∃ P : Ending → World → Prop, P = GivesVT base n w := ⟨_, rfl⟩
  rw [← hP0]
  have HP0 := Lib.hid hP0
  clear hP0
  go_enter Tryz.func37, Tryz.ntmps37
  go_upto_region 1 with (fail)
  have R1 := Lib.hid ((Row.new w #[.slice a n cap] 29).alloc (.cells #[.slice none 0 0] 29))
  have R2 : Hid (Row ((w.alloc (.cells #[.slice a n cap] 29)).alloc (.cells #[.slice none 0 0] 29)) (w.heap.size + 1) 29 [.slice none 0 0]) := Lib.hid (by
    have q := Row.new (w.alloc (.cells #[.slice a n cap] 29)) #[.slice none 0 0] 29
    have e : (w.alloc (.cells #[.slice a n cap] 29)).heap.size = w.heap.size + 1 := by simp
    rw [e] at q; exact q)
  obtain ⟨W, hW⟩ : ∃ W : World, Hid (W = (w.alloc (.cells #[.slice a n cap] 29)).alloc (.cells #[.slice none 0 0] 29)) := ⟨_, Lib.hid rfl⟩
  have GW : Hid (Gr w W) := Lib.hid (by rw [hW.out]; exact ((Gr.refl _).alloc _).alloc _)
  rw [← hW.out] at R1 R2 ⊢
  obtain ⟨PB, hPB⟩ : ∃ N : Nat, Hid (w.heap.size = N) := ⟨_, Lib.hid rfl⟩
  have HPB := Lib.hid hPB.out
  rw [hPB.out] at R1 R2 ⊢
  clear hW hPB
  obtain ⟨P2, hP2⟩ : ∃ N : Nat, Hid (PB + 1 = N) := ⟨_, Lib.hid rfl⟩
  have HP2 := Lib.hid hP2.out
  rw [hP2.out] at R2 ⊢
  clear hP2
  have x0 := R1.out.cell 0 (by simp)
  have hxb := has_of_cell x0
  have LL : Hid ((ms.map NM.n).length = n) := Lib.hid (by rw [List.length_map]; exact NL.out.symm)
  have SC := rSet_ok (ms.map NM.n) a cap s nm val W (SL.out.gr RNod.mono GW.out) HV.out.v hm hval
  rw [LL.out] at SC
  go_wp2_with fail
  refine SC.mono ?_
  rintro e w1 ⟨hg1, hb⟩
  have G1 := Lib.hid (GW.out.trans hg1)
  have S1 := Lib.hid (R1.out.gr hg1)
  have S2 := Lib.hid (R2.out.gr hg1)
  clear hg1 x0 hxb R1 R2 SC
  rcases hb with ⟨rfl, hno⟩ | ⟨k, v, m2, hk, hpt, rfl, htr, hmp⟩
  · clear hno
    go_upto_region 2 with (fail)
    have T1 := Lib.hid (HT.out.gr (G1.out.alloc (.cells #[.slice none 0 0] 29)))
    have U1 := Lib.hid (S1.out.alloc (.cells #[.slice none 0 0] 29))
    have U2 := Lib.hid (S2.out.alloc (.cells #[.slice none 0 0] 29))
    have GA := Lib.hid (G1.out.alloc (.cells #[.slice none 0 0] 29))
    obtain ⟨W2, hW2⟩ : ∃ W : World, Hid (W = w1.alloc (.cells #[.slice none 0 0] 29)) := ⟨_, Lib.hid rfl⟩
    rw [← hW2.out] at T1 U1 U2 GA ⊢
    clear hW2 S1 S2 G1
    have x0 := U1.out.cell 0 (by simp)
    have hx := has_of_cell x0
    have z0 := U2.out.cell 0 (by simp)
    have zf := U2.out.free 0
    have hz := has_of_cell z0
    go_wp2_with fail
    have RF := Lib.hid (U2.out.set 0 (.slice a n cap))
    have TF := Lib.hid (T1.out.box (o := 0) (u := .slice a n cap) U2.out.ty (by decide) (T1.out.ne_ty U2.out.ty (by decide)))
    have GF : Hid (Gr w (W2.setCell ⟨P2, 0, none⟩ (.slice a n cap))) := Lib.hid (GA.out.setc (by have := HPB.out; have := HP2.out; omega))
    obtain ⟨W3, hW3⟩ : ∃ W : World, Hid (W = W2.setCell ⟨P2, 0, none⟩ (.slice a n cap)) := ⟨_, Lib.hid rfl⟩
    rw [← hW3.out] at RF TF GF ⊢
    have e0 : W3.cell? ⟨P2, 0, none⟩ = some (.slice a n cap) := RF.out.cell 0 (by simp)
    clear hW3
    refine bodyPost_ret (v := .agg #[.slice a n cap]) (by simp [results, Tryz.results37, e0, go_sem]) rfl ?_
    rw [HP0.out]
    exact ⟨_, ms, rfl, TF.out, HV.out, NL.out.symm, GF.out⟩
  · obtain ⟨va, vc, hv⟩ := owns_slice htr.own
    subst hv
    have ML : Hid (m2.length = n) := Lib.hid (by have h1 := congrArg List.length hmp; unfold setN at h1; rw [List.length_map, List.length_set] at h1; rw [h1]; exact LL.out)
    have PV1 := Lib.hid (HV.out.v.prp k hk)
    have V2 : Hid (VB (setN (ms.map NM.n) k (putP (nd (ms.map NM.n) k).props ⟨nm, val⟩))) := Lib.hid ⟨VT_set HV.out.v hk (PV_put PV1.out (p := ⟨nm, val⟩) hm hval), HV.out.x.set (noX_put (HV.out.x k) hx)⟩
    have M2 := Lib.hid hmp
    have TR := Lib.hid (htr.low (base' := base) (Nat.le_trans HBS.out GW.out.size))
    clear hpt hmp htr
    go_upto_region 2 with (fail)
    have T1 := Lib.hid (TR.out.gr ((Gr.refl w1).alloc (.cells #[.slice va m2.length vc] 29)))
    have BX := Lib.hid (Row.new w1 #[.slice va m2.length vc] 29)
    have U2 := Lib.hid (S2.out.alloc (.cells #[.slice va m2.length vc] 29))
    have GA := Lib.hid (G1.out.alloc (.cells #[.slice va m2.length vc] 29))
    obtain ⟨W2, hW2⟩ : ∃ W : World, Hid (W = w1.alloc (.cells #[.slice va m2.length vc] 29)) := ⟨_, Lib.hid rfl⟩
    rw [← hW2.out] at T1 BX U2 GA ⊢
    clear hW2 S1 S2 G1 TR
    have x0 := BX.out.cell 0 (by simp)
    have hx := has_of_cell x0
    have z0 := U2.out.cell 0 (by simp)
    have zf := U2.out.free 0
    have hz := has_of_cell z0
    go_wp2_with fail
    have RF := Lib.hid (U2.out.set 0 (.slice va m2.length vc))
    have TF := Lib.hid (T1.out.box (o := 0) (u := .slice va m2.length vc) U2.out.ty (by decide) (T1.out.ne_ty U2.out.ty (by decide)))
    have GF : Hid (Gr w (W2.setCell ⟨P2, 0, none⟩ (.slice va m2.length vc))) := Lib.hid (GA.out.setc (by have := HPB.out; have := HP2.out; omega))
    obtain ⟨W3, hW3⟩ : ∃ W : World, Hid (W = W2.setCell ⟨P2, 0, none⟩ (.slice va m2.length vc)) := ⟨_, Lib.hid rfl⟩
    rw [← hW3.out] at RF TF GF ⊢
    have e0 : W3.cell? ⟨P2, 0, none⟩ = some (.slice va m2.length vc) := RF.out.cell 0 (by simp)
    clear hW3
    refine bodyPost_ret (v := .agg #[.slice va m2.length vc]) (by simp [results, Tryz.results37, e0, go_sem]) rfl ?_
    rw [HP0.out]
    exact ⟨_, m2, rfl, TF.out, by rw [M2.out]; exact V2.out, ML.out, GF.out⟩
def oddL : List St := [[], [47, 113], [47, 47], [97], [47, 97, 47]]
theorem oddL_ok : oddL.all (fun s => decide (s.length ≤ 31)) = true := by kernel_rfl
def pat3F (wr : World) (b len PB n cap : Nat) (ad : Option Addr) (ts : Tr) (t4 t13 t14 t15 t16 t17 t18 t19 : Value) (d : Array Bool) (w : World) : Prop :=
  (Mv b len wr w ∧ Row w PB 29 [.slice ad n cap]) ∧ (d.getD 0 false = true → t13 = .agg #[.slice ad n cap]) ∧
  (d.getD 1 false = true → t14 = .pointer (some ⟨b, 0, none⟩)) ∧
  (d.getD 2 false = true → t15 = .pointer (some ⟨PB, 0, none⟩)) ∧
  (d.getD 3 false = true → t16 = .slice ad n cap) ∧
  (d.getD 4 false = true → t17 = .int .i64 (n : Int)) ∧
  (d.getD 5 false = true → ∃ x : Nat, t18 = .int .i64 (x : Int) ∧ x < n) ∧
  (d.getD 6 false = true → ∃ s : St, t19 = .string (bs s) ∧ s.length ≤ 10000) ∧
  (d.getD 7 false = true → ∃ s : St, t4 = .string (bs s) ∧ s.length ≤ 10000)
def pat3A (b PB : Nat) (t4 t13 t14 t15 t16 t17 t18 t19 s1 s2 s5 s6 s7 s8 s9 s10 s11 s12 : Value) : Act := { tmps := #[.pointer (some ⟨b, 0, none⟩), s1, s2, .pointer (some ⟨PB, 0, none⟩), t4, s5, s6, s7, s8, s9, s10, s11, s12, t13, t14, t15, t16, t17, t18, t19], defers := [] }
theorem pat3 {Q : Exit → Act → World → Prop} {wr : World} {b len PB n cap : Nat} {ad : Option Addr} {ts : Tr}  {s1 s2 s4 s5 s6 s7 s8 s9 s10 s11 s12 s13 s14 s15 s16 s17 s18 s19 : Value} (htp : Tp wr b len) (hrow : Row wr PB 29 [.slice ad n cap]) (hnb : PB ≠ b) (hl : ts.length = n) (hn : 1 ≤ n ∧ n ≤ 120) (hv : VT ts) (hsl : ∀ W, Mv b len wr W → SlOf 3 RNod W ad ts)
    (h' : ∀ t4 t13 t14 t15 t16 t17 t18 t19 wx, (∃ s : St, t4 = .string (bs s) ∧ s.length ≤ 10000) → Mv b len wr wx → Q .normal (pat3A b PB t4 t13 t14 t15 t16 t17 t18 t19 s1 s2 s5 s6 s7 s8 s9 s10 s11 s12) wx) :
    (Code.region 3 (regIn 3 Tryz.f67) true).wp Tryz.prog Q { tmps := #[.pointer (some ⟨b, 0, none⟩), s1, s2, .pointer (some ⟨PB, 0, none⟩), s4, s5, s6, s7, s8, s9, s10, s11, s12, s13, s14, s15, s16, s17, s18, s19], defers := [] } wr := by
  have HTP := PLift.up htp
  have HRW := PLift.up hrow
  have HNB := PLift.up hnb
  have HL := PLift.up hl
  have HN := PLift.up hn
  have HV := PLift.up hv
  have HSL := PLift.up hsl
  have HBS := PLift.up htp.has
  clear htp hrow hnb hl hn hv hsl
  simp only [regIn, Tryz.f67, regOps, Option.bind_some, Option.getD_some, Nat.beq, cond_true, cond_false]
  refine wp_region_steps (fun done a w => ∃ t4 t13 t14 t15 t16 t17 t18 t19, a = pat3A b PB t4 t13 t14 t15 t16 t17 t18 t19 s1 s2 s5 s6 s7 s8 s9 s10 s11 s12 ∧ pat3F wr b len PB n cap ad ts t4 t13 t14 t15 t16 t17 t18 t19 done w) (by kernel_rfl) (by kernel_rfl) ?_ ⟨?_, ?_, ?_, ?_, ?_, ?_, ?_, ?_, trivial⟩ ?_
  · exact ⟨s4, s13, s14, s15, s16, s17, s18, s19, rfl, ⟨Mv.of_gr HTP.down (Gr.refl _).drew, HRW.down.drew⟩, fun q => absurd q (by decide), fun q => absurd q (by decide), fun q => absurd q (by decide), fun q => absurd q (by decide), fun q => absurd q (by decide), fun q => absurd q (by decide), fun q => absurd q (by decide), fun q => absurd q (by decide)⟩
  · rintro done a w hsz hnot hdep ⟨t4, t13, t14, t15, t16, t17, t18, t19, rfl, gw, f0, f1, f2, f3, f4, f5, f6, f7⟩ K hK
    have hn : ¬ done.getD 0 false = true := by rw [getD_both hnot]; decide
    have c0 : w.cell? ⟨PB, 0, none⟩ = some (.slice ad n cap) := gw.2.cell 0 (by simp)
    have ch := has_of_cell c0
    have HK := PLift.up hK
    clear hK 
    simp only [pat3A]
    go_simp
    have gg : Gr w w := Gr.refl _
    refine HK.down _ _ ⟨_, _, _, _, _, _, _, _, rfl, gw, fun _ => rfl, kp f1, kp f2, kp f3, kp f4, kp f5, kp f6, kp f7⟩
  · rintro done a w hsz hnot hdep ⟨t4, t13, t14, t15, t16, t17, t18, t19, rfl, gw, f0, f1, f2, f3, f4, f5, f6, f7⟩ K hK
    have hn : ¬ done.getD 1 false = true := by rw [getD_both hnot]; decide
    have HK := PLift.up hK
    clear hK 
    simp only [pat3A]
    go_simp
    have gg : Gr w w := Gr.refl _
    refine HK.down _ _ ⟨_, _, _, _, _, _, _, _, rfl, gw, kp f0, fun _ => rfl, kp f2, kp f3, kp f4, kp f5, kp f6, kp f7⟩
  · rintro done a w hsz hnot hdep ⟨t4, t13, t14, t15, t16, t17, t18, t19, rfl, gw, f0, f1, f2, f3, f4, f5, f6, f7⟩ K hK
    have hn : ¬ done.getD 2 false = true := by rw [getD_both hnot]; decide
    have HK := PLift.up hK
    clear hK 
    simp only [pat3A]
    go_simp
    have gg : Gr w w := Gr.refl _
    refine HK.down _ _ ⟨_, _, _, _, _, _, _, _, rfl, gw, kp f0, kp f1, fun _ => rfl, kp f3, kp f4, kp f5, kp f6, kp f7⟩
  · rintro done a w hsz hnot hdep ⟨t4, t13, t14, t15, t16, t17, t18, t19, rfl, gw, f0, f1, f2, f3, f4, f5, f6, f7⟩ K hK
    have hn : ¬ done.getD 3 false = true := by rw [getD_both hnot]; decide
    have d2 := hdep 2 (by kernel_rfl)
    obtain rfl := f2 d2
    have c0 : w.cell? ⟨PB, 0, none⟩ = some (.slice ad n cap) := gw.2.cell 0 (by simp)
    have ch := has_of_cell c0
    have HK := PLift.up hK
    clear hK d2
    simp only [pat3A]
    go_simp
    have gg : Gr w w := Gr.refl _
    refine HK.down _ _ ⟨_, _, _, _, _, _, _, _, rfl, gw, kp f0, kp f1, kp f2, fun _ => rfl, kp f4, kp f5, kp f6, kp f7⟩
  · rintro done a w hsz hnot hdep ⟨t4, t13, t14, t15, t16, t17, t18, t19, rfl, gw, f0, f1, f2, f3, f4, f5, f6, f7⟩ K hK
    have hn : ¬ done.getD 4 false = true := by rw [getD_both hnot]; decide
    have d3 := hdep 3 (by kernel_rfl)
    obtain rfl := f3 d3
    have HK := PLift.up hK
    clear hK d3
    simp only [pat3A]
    go_simp
    have gg : Gr w w := Gr.refl _
    refine HK.down _ _ ⟨_, _, _, _, _, _, _, _, rfl, gw, kp f0, kp f1, kp f2, kp f3, fun _ => rfl, kp f5, kp f6, kp f7⟩
  · rintro done a w hsz hnot hdep ⟨t4, t13, t14, t15, t16, t17, t18, t19, rfl, gw, f0, f1, f2, f3, f4, f5, f6, f7⟩ K hK
    have hn : ¬ done.getD 5 false = true := by rw [getD_both hnot]; decide
    have d1 := hdep 1 (by kernel_rfl)
    have d4 := hdep 4 (by kernel_rfl)
    obtain rfl := f1 d1
    obtain rfl := f4 d4
    have TP := PLift.up (gw.1.tp HTP.down)
    have GW := PLift.up gw
    have HK := PLift.up hK
    clear hK d1 d4
    simp only [pat3A]
    go_simp
    refine (nM_any w b len n TP.down (by have := HN.down.1; omega) (by have := HN.down.2; omega)).mono ?_
    rintro e w2 ⟨y, rfl, ⟨y0, y1⟩, hm⟩
    obtain ⟨x, rfl⟩ := Int.eq_ofNat_of_zero_le y0
    (try go_simp)
    refine HK.down _ _ ⟨_, _, _, _, _, _, _, _, rfl, ⟨GW.down.1.trans HBS.down hm, hm.row GW.down.2 HNB.down⟩, kp f0, kp f1, kp f2, kp f3, kp f4, ?_, kp f6, kp f7⟩
    exact fun _ => ⟨x, rfl, by omega⟩
  · rintro done a w hsz hnot hdep ⟨t4, t13, t14, t15, t16, t17, t18, t19, rfl, gw, f0, f1, f2, f3, f4, f5, f6, f7⟩ K hK
    have hn : ¬ done.getD 6 false = true := by rw [getD_both hnot]; decide
    have d0 := hdep 0 (by kernel_rfl)
    have d5 := hdep 5 (by kernel_rfl)
    obtain rfl := f0 d0
    obtain ⟨x, rfl, hx⟩ := f5 d5
    have GW := PLift.up gw
    have HX := PLift.up hx
    obtain ⟨s, hs, hsl⟩ := HV.down.pathEx (k := x) (by rw [HL.down]; exact hx)
    have PS := PLift.up hs
    clear hs
    have HK := PLift.up hK
    clear hK d0
    simp only [pat3A]
    go_simp
    have LK := rPath_ok ts ad cap x s w (HSL.down w GW.down.1) HV.down (by rw [HL.down]; exact HX.down) PS.down
    rw [HL.down] at LK
    refine LK.mono ?_
    rintro e w2 ⟨rfl, hg⟩
    (try go_simp)
    refine HK.down _ _ ⟨_, _, _, _, _, _, _, _, rfl, ⟨GW.down.1.gr hg, GW.down.2.gr hg⟩, kp f0, kp f1, kp f2, kp f3, kp f4, fun _ => ⟨x, rfl, HX.down⟩, ?_, kp f7⟩
    exact fun _ => ⟨s, rfl, hsl⟩
  · rintro done a w hsz hnot hdep ⟨t4, t13, t14, t15, t16, t17, t18, t19, rfl, gw, f0, f1, f2, f3, f4, f5, f6, f7⟩ K hK
    have hn : ¬ done.getD 7 false = true := by rw [getD_both hnot]; decide
    have d6 := hdep 6 (by kernel_rfl)
    obtain ⟨s, rfl, hsl⟩ := f6 d6
    have HK := PLift.up hK
    clear hK 
    simp only [pat3A]
    go_simp
    have gg : Gr w w := Gr.refl _
    refine HK.down _ _ ⟨_, _, _, _, _, _, _, _, rfl, gw, kp f0, kp f1, kp f2, kp f3, kp f4, kp f5, fun _ => ⟨s, rfl, hsl⟩, ?_⟩
    exact fun _ => ⟨s, rfl, hsl⟩
  · rintro done a w hall ⟨t4, t13, t14, t15, t16, t17, t18, t19, rfl, gw, f0, f1, f2, f3, f4, f5, f6, f7⟩
    exact h' _ _ _ _ _ _ _ _ w (f7 (hall 7 (by decide))) gw.1
theorem gPath_any (base : Nat) (ms : List NM) (a : Option Addr) (n cap b len : Nat) (w : World) (ht : Tp w b len) (h : TrAt base w (.slice a n cap) ms) (hv : VT (ms.map NM.n)) (hbs : b < base ∧ base ≤ w.heap.size) :
    Calls Tryz.prog 67 #[.pointer (some ⟨b, 0, none⟩), .agg #[.slice a n cap]] w fun e w' => ∃ s : St, s.length ≤ 10000 ∧ e = .returned (.string (bs s)) ∧ Mv b len w w' := by
  have nl := h.sl.1
  have H := Lib.hid ht
  have HT := Lib.hid h
  have HV := Lib.hid hv
  have LL : Hid ((ms.map NM.n).length = n) := Lib.hid (by rw [List.length_map]; exact nl.symm)
  have hb := ht.has
  have hbb := hbs.1
  have n1 := hv.pos
  have n2 := hv.few
  rw [LL.out] at n1 n2
  clear h hv ht nl
  go_enter Tryz.func67, Tryz.ntmps67
  go_upto_region 1 with (fail)
  have R1 := Lib.hid (Row.new w #[.slice a n cap] 29)
  obtain ⟨W, hW⟩ : ∃ W : World, Hid (W = w.alloc (.cells #[.slice a n cap] 29)) := ⟨_, Lib.hid rfl⟩
  have GW : Hid (Gr w W) := Lib.hid (by rw [hW.out]; exact (Gr.refl _).alloc _)
  rw [← hW.out] at R1 ⊢
  clear hW
  have T0 := Lib.hid (H.out.gr GW.out)
  go_wp2_with fail
  refine (nM_any W b len 30 T0.out (by omega) (by omega)).mono ?_
  rintro e w1 ⟨x, rfl, ⟨x0, x1⟩, hm⟩
  have M1 := Lib.hid ((Mv.of_gr H.out GW.out).trans H.out.has hm)
  have T1 := Lib.hid (hm.tp T0.out)
  have S1 := Lib.hid (hm.row R1.out (by omega))
  clear hm R1
  by_cases hx : x = 29
  · have xb : (x == 29) = true := by rw [hx]; rfl
    go_wp2_with fail
    have RX : Hid (Row (w1.alloc (.cells #[.string ⟨#[]⟩, .string ⟨#[47, 113]⟩, .string ⟨#[47, 47]⟩, .string ⟨#[97]⟩, .string ⟨#[47, 97, 47]⟩] 9)) w1.heap.size 9 (strV oddL)) := Lib.hid (Row.new w1 #[.string ⟨#[]⟩, .string ⟨#[47, 113]⟩, .string ⟨#[47, 47]⟩, .string ⟨#[97]⟩, .string ⟨#[47, 97, 47]⟩] 9)
    obtain ⟨W2, hW⟩ : ∃ W : World, Hid (W = w1.alloc (.cells #[.string ⟨#[]⟩, .string ⟨#[47, 113]⟩, .string ⟨#[47, 47]⟩, .string ⟨#[97]⟩, .string ⟨#[47, 97, 47]⟩] 9)) := ⟨_, Lib.hid rfl⟩
    have GW2 : Hid (Gr w1 W2) := Lib.hid (by rw [hW.out]; exact (Gr.refl _).alloc _)
    rw [← hW.out] at RX ⊢
    clear hW
    have B1 := M1.out.size
    refine (nM_any W2 b len 5 (T1.out.gr GW2.out) (by omega) (by omega)).mono ?_
    rintro e w2 ⟨y, rfl, ⟨y0, y1⟩, hm⟩
    have MV := Lib.hid ((M1.out.gr GW2.out).trans H.out.has hm)
    have RY := Lib.hid (hm.row RX.out (by omega))
    obtain ⟨k, rfl⟩ := Int.eq_ofNat_of_zero_le y0
    have hk : k < oddL.length := by simp [oddL]; omega
    have c0 := RY.out.cell k (by simpa [strV] using hk)
    rw [strV_get hk] at c0
    have hh := has_of_cell c0
    have k9 : (k : Int) < 5 := by omega
    have MEM := Lib.hid (List.all_eq_true.1 oddL_ok _ (List.getElem_mem hk))
    obtain ⟨s, hs⟩ : ∃ s, oddL[k] = s := ⟨_, rfl⟩
    rw [hs] at c0 MEM
    clear hm hs y0 y1
    go_wp2_with fail
    go_ret
    exact ⟨s, by have := MEM.out; simp at this; omega, rfl, MV.out⟩
  · have xb : (x == 29) = false := by rw [beq_eq_false_iff_ne]; exact hx
    go_wp2_with fail
    refine wp_code_eq (c := Code.region 3 (regIn 3 Tryz.f67) true) (by kernel_rfl) (pat3 (wr := w1) (b := b) (len := len) (PB := w.heap.size) (n := n) (cap := cap) (ad := a) (ts := ms.map NM.n) T1.out S1.out (by omega) LL.out ⟨by omega, n2⟩ HV.out (fun W hm => ((HT.out.mv hbb (M1.out.trans H.out.has hm)).sl).2) ?_)
    intro t4 t13 t14 t15 t16 t17 t18 t19 wx ⟨s, hs, hsl⟩ hm
    subst hs
    have MV := Lib.hid (M1.out.trans H.out.has hm)
    clear hm
    unfold pat3A
    go_wp2_with fail
    go_ret
    exact ⟨s, hsl, rfl, MV.out⟩
end Go.Proofs.YtbpkndiecomggaaGreatDoor

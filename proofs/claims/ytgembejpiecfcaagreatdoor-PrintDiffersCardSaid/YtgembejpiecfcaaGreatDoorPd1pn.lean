/- Lemmas and contracts for the proof of PrintDiffers (several texts in one, printed by wip/tools/pack.py): VcC VcD VcE VcF VcG. -/
import Derived.Test.YtgembejpiecfcaaGreatDoorPd1pl
import Derived.Test.YtgembejpiecfcaaGreatDoorPd1pm
set_option maxRecDepth 100000
set_option maxHeartbeats 16000000
set_option linter.unusedVariables false
set_option linter.unusedSimpArgs false
namespace Go.Proofs.YtgembejpiecfcaaGreatDoor
open Go.RowKit
open Classical
def valsL : List St := [[97, 0], [111, 107, 97, 121, 0], [102, 105, 114, 115, 116, 0, 115, 101, 99, 111, 110, 100, 0], [119, 105, 116, 104, 32, 34, 113, 117, 111, 116, 101, 34, 32, 97, 110, 100, 32, 92, 0], [116, 97, 98, 9, 0], [97, 98, 0, 0]]
theorem valsL_ok : valsL.all (fun s => decide (s.length ≤ 31)) = true := by kernel_rfl
theorem cellsS_len (ns : List Nat) : (cellsS ns).length = 4 * ns.length := by
  unfold cellsS
  induction ns with
  | nil => rfl
  | cons n ns ih => rw [List.flatMap_cons, List.length_append, ih]; simp [cell4]; omega
theorem value_any (w : World) (b len : Nat) (h : Tp w b len) :
    Calls Tryz.prog 15 #[.pointer (some ⟨b, 0, none⟩)] w fun e w' => ∃ s : St, s.length ≤ 100 ∧ e = .returned (.string (bs s)) ∧ Mv b len w w' := by
  have H := Lib.hid h
  have hb := h.has
  obtain ⟨i0, hi, hz0, hz1, hz2⟩ := info_parts infoInt
  obtain ⟨j0, hj, hy0, hy1, hy2⟩ := info_parts infoU8
  clear h
  go_enter Tryz.func15, Tryz.ntmps15
  go_wp2_with fail
  refine (nM_any w b len 7 H.out (by omega) (by omega)).mono ?_
  rintro e w1 ⟨x, rfl, ⟨x0, x1⟩, hm⟩
  have M1 := Lib.hid hm
  have T1 := Lib.hid (hm.tp H.out)
  clear hm
  have B1 := M1.out.size
  rcases (show x = 0 ∨ x = 1 ∨ x = 2 ∨ x = 3 ∨ x = 4 ∨ x = 5 ∨ x = 6 by omega) with rfl | rfl | rfl | rfl | rfl | rfl | rfl
  · go_wp2_with fail
    go_ret
    exact ⟨[], by simp, rfl, M1.out⟩
  · have N0 := Lib.hid (M1.out.size)
    go_wp2_with fail
    refine (rangeW_any w1 b len 1 3 T1.out (by omega) (by omega) (by omega)).mono ?_
    rintro e w2 ⟨c, rfl, ⟨c0, c1⟩, hm2⟩
    have M2 := Lib.hid (M1.out.trans H.out.has hm2)
    clear hm2
    go_wp2_with fail
    go_loopw [3, 4] (fun v i wr => ∃ (m : Int) (ns : List Nat), i = .int .i64 m ∧ 0 ≤ m ∧ m + ns.length ≤ 3 ∧ 1 ≤ m + ns.length ∧ (∀ n ∈ ns, n < 4294967296) ∧ wr.ownsRow w.heap.size 3 1 v ns.length (nums (ns.map (fun n : Nat => (n : Int)))) ∧ Mv b len w wr) (fun _ i _ => (intOf i).toNat)
    case atStart => exact ⟨c, [], rfl, by omega, by simp; omega, by simp; omega, by simp, World.ownsRow_nil _ _ _ _, M2.out⟩
    case round =>
      obtain ⟨m, ns, rfl, m0, m1, m2, hns, ho, hm⟩ := hrel
      obtain ⟨va, vc, rfl⟩ := owns_slice ho
      have OW := Lib.hid ho
      have MV := Lib.hid hm
      have TW := Lib.hid (hm.tp H.out)
      have NS := Lib.hid hns
      clear hns ho hm
      obtain ⟨nl, hnl⟩ : ∃ n, ns.length = n := ⟨_, rfl⟩
      have NL := Lib.hid hnl
      rw [hnl] at m1 m2 OW ⊢
      by_cases hlt : 0 < m
      · clear hnl
        go_wp2_with fail
        refine (tNumber_any wr b len TW.out).mono ?_
        rintro e w3 ⟨n, hn, rfl, hm3⟩
        have O3 := Lib.hid ((Mv.owns hm3 OW.out hb).alloc (.cells #[.int .i64 n] 3))
        have M3 := Lib.hid (MV.out.trans H.out.has hm3)
        have NR := Lib.hid (row_cells (Row.new w3 #[.int .i64 n] 3))
        have S3 := Lib.hid M3.out.size
        clear hm3
        go_wp2_with (at_builtin; refine wpList_append_own _ rfl _ _ 22 rfl w.heap.size 3 i0 (.int .i64 0) 1 8 Tryz.underlying22 hi hz0 hz1 hz2 rfl (by decide) _ nl (nums (ns.map (fun n : Nat => (n : Int)))) rfl O3.out ⟨w3.heap.size, 0, none⟩ 1 1 [.int .i64 n] rfl rfl NR.out (by intro u hu; rw [List.mem_singleton.1 hu]; rfl) (by unfold maxLen; omega) (by omega) (by have := S3.out; simp; omega) ?_; intro v' wz hown' hgrow hnil; have HOz := Lib.hid hown'; have HGz := Lib.hid hgrow; clear hown' hgrow hnil)
        go_roundw
        case rel =>
          refine ⟨m - 1, ns ++ [n], rfl, by omega, by rw [List.length_append, NL.out]; simp; omega, by rw [List.length_append, NL.out]; simp; omega, fun z hz => ?_, ?_, (M3.out.alloc _).grown HGz.out (fun j e => (owns_block O3.out j e).1)⟩
          · rcases List.mem_append.1 hz with q | q
            · exact NS.out z q
            · rw [List.mem_singleton.1 q]; exact hn
          · have := HOz.out
            rw [List.length_append, NL.out]
            simpa [nums] using this
        case measure => simp [intOf]; omega
      · obtain rfl : m = 0 := by omega
        rw [← hnl] at OW ⊢
        obtain ⟨a2, c2, e2, hc2, hs2⟩ := ints_at (zs := ns.map (fun n : Nat => (n : Int))) (by rw [List.length_map]; exact OW.out) (by intro z hz; obtain ⟨n, hn, rfl⟩ := List.mem_map.1 hz; have := NS.out n hn; unfold Wide; omega)
        rw [List.length_map] at e2 hc2
        cases e2
        have SL := Lib.hid hs2
        clear hs2
        have hnl2 := hnl
        go_wp2_with fail
        have GC := growCells_any ns va vc wr SL.out NS.out (by omega) (by omega)
        rw [hnl] at GC
        refine GC.mono ?_
        rintro e w4 ⟨rfl, hg4⟩
        have M4 := Lib.hid (MV.out.gr hg4)
        clear hg4
        go_wp2_with fail
        go_ret
        exact ⟨cellsS ns, by rw [cellsS_len]; omega, rfl, M4.out⟩
  · have N0 := Lib.hid (M1.out.size)
    go_wp2_with fail
    refine (rangeW_any w1 b len 1 3 T1.out (by omega) (by omega) (by omega)).mono ?_
    rintro e w2 ⟨c, rfl, ⟨c0, c1⟩, hm2⟩
    have M2 := Lib.hid (M1.out.trans H.out.has hm2)
    clear hm2
    go_wp2_with fail
    go_loopw [3, 4] (fun v i wr => ∃ (m : Int) (ns : List Nat), i = .int .i64 m ∧ 0 ≤ m ∧ m + ns.length ≤ 3 ∧ 1 ≤ m + ns.length ∧ (∀ n ∈ ns, n < 4294967296) ∧ wr.ownsRow w.heap.size 3 1 v ns.length (nums (ns.map (fun n : Nat => (n : Int)))) ∧ Mv b len w wr) (fun _ i _ => (intOf i).toNat)
    case atStart => exact ⟨c, [], rfl, by omega, by simp; omega, by simp; omega, by simp, World.ownsRow_nil _ _ _ _, M2.out⟩
    case round =>
      obtain ⟨m, ns, rfl, m0, m1, m2, hns, ho, hm⟩ := hrel
      obtain ⟨va, vc, rfl⟩ := owns_slice ho
      have OW := Lib.hid ho
      have MV := Lib.hid hm
      have TW := Lib.hid (hm.tp H.out)
      have NS := Lib.hid hns
      clear hns ho hm
      obtain ⟨nl, hnl⟩ : ∃ n, ns.length = n := ⟨_, rfl⟩
      have NL := Lib.hid hnl
      rw [hnl] at m1 m2 OW ⊢
      by_cases hlt : 0 < m
      · clear hnl
        go_wp2_with fail
        refine (tNumber_any wr b len TW.out).mono ?_
        rintro e w3 ⟨n, hn, rfl, hm3⟩
        have O3 := Lib.hid ((Mv.owns hm3 OW.out hb).alloc (.cells #[.int .i64 n] 3))
        have M3 := Lib.hid (MV.out.trans H.out.has hm3)
        have NR := Lib.hid (row_cells (Row.new w3 #[.int .i64 n] 3))
        have S3 := Lib.hid M3.out.size
        clear hm3
        go_wp2_with (at_builtin; refine wpList_append_own _ rfl _ _ 22 rfl w.heap.size 3 i0 (.int .i64 0) 1 8 Tryz.underlying22 hi hz0 hz1 hz2 rfl (by decide) _ nl (nums (ns.map (fun n : Nat => (n : Int)))) rfl O3.out ⟨w3.heap.size, 0, none⟩ 1 1 [.int .i64 n] rfl rfl NR.out (by intro u hu; rw [List.mem_singleton.1 hu]; rfl) (by unfold maxLen; omega) (by omega) (by have := S3.out; simp; omega) ?_; intro v' wz hown' hgrow hnil; have HOz := Lib.hid hown'; have HGz := Lib.hid hgrow; clear hown' hgrow hnil)
        go_roundw
        case rel =>
          refine ⟨m - 1, ns ++ [n], rfl, by omega, by rw [List.length_append, NL.out]; simp; omega, by rw [List.length_append, NL.out]; simp; omega, fun z hz => ?_, ?_, (M3.out.alloc _).grown HGz.out (fun j e => (owns_block O3.out j e).1)⟩
          · rcases List.mem_append.1 hz with q | q
            · exact NS.out z q
            · rw [List.mem_singleton.1 q]; exact hn
          · have := HOz.out
            rw [List.length_append, NL.out]
            simpa [nums] using this
        case measure => simp [intOf]; omega
      · obtain rfl : m = 0 := by omega
        rw [← hnl] at OW ⊢
        obtain ⟨a2, c2, e2, hc2, hs2⟩ := ints_at (zs := ns.map (fun n : Nat => (n : Int))) (by rw [List.length_map]; exact OW.out) (by intro z hz; obtain ⟨n, hn, rfl⟩ := List.mem_map.1 hz; have := NS.out n hn; unfold Wide; omega)
        rw [List.length_map] at e2 hc2
        cases e2
        have SL := Lib.hid hs2
        clear hs2
        have hnl2 := hnl
        go_wp2_with fail
        have GC := growCells_any ns va vc wr SL.out NS.out (by omega) (by omega)
        rw [hnl] at GC
        refine GC.mono ?_
        rintro e w4 ⟨rfl, hg4⟩
        have M4 := Lib.hid (MV.out.gr hg4)
        clear hg4
        go_wp2_with fail
        go_ret
        exact ⟨cellsS ns, by rw [cellsS_len]; omega, rfl, M4.out⟩
  · go_wp2_with fail
    have RX : Hid (Row (w1.alloc (.cells #[.string ⟨#[97, 0]⟩, .string ⟨#[111, 107, 97, 121, 0]⟩, .string ⟨#[102, 105, 114, 115, 116, 0, 115, 101, 99, 111, 110, 100, 0]⟩, .string ⟨#[119, 105, 116, 104, 32, 34, 113, 117, 111, 116, 101, 34, 32, 97, 110, 100, 32, 92, 0]⟩, .string ⟨#[116, 97, 98, 9, 0]⟩, .string ⟨#[97, 98, 0, 0]⟩] 9)) w1.heap.size 9 (strV valsL)) := Lib.hid (Row.new w1 #[.string ⟨#[97, 0]⟩, .string ⟨#[111, 107, 97, 121, 0]⟩, .string ⟨#[102, 105, 114, 115, 116, 0, 115, 101, 99, 111, 110, 100, 0]⟩, .string ⟨#[119, 105, 116, 104, 32, 34, 113, 117, 111, 116, 101, 34, 32, 97, 110, 100, 32, 92, 0]⟩, .string ⟨#[116, 97, 98, 9, 0]⟩, .string ⟨#[97, 98, 0, 0]⟩] 9)
    obtain ⟨W, hW⟩ : ∃ W : World, Hid (W = w1.alloc (.cells #[.string ⟨#[97, 0]⟩, .string ⟨#[111, 107, 97, 121, 0]⟩, .string ⟨#[102, 105, 114, 115, 116, 0, 115, 101, 99, 111, 110, 100, 0]⟩, .string ⟨#[119, 105, 116, 104, 32, 34, 113, 117, 111, 116, 101, 34, 32, 97, 110, 100, 32, 92, 0]⟩, .string ⟨#[116, 97, 98, 9, 0]⟩, .string ⟨#[97, 98, 0, 0]⟩] 9)) := ⟨_, Lib.hid rfl⟩
    have GW : Hid (Gr w1 W) := Lib.hid (by rw [hW.out]; exact (Gr.refl _).alloc _)
    rw [← hW.out] at RX ⊢
    clear hW
    refine (nM_any W b len 6 (T1.out.gr GW.out) (by omega) (by omega)).mono ?_
    rintro e w2 ⟨x, rfl, ⟨x0, x1⟩, hm⟩
    have MV := Lib.hid ((M1.out.gr GW.out).trans H.out.has hm)
    have RY := Lib.hid (hm.row RX.out (by omega))
    obtain ⟨k, rfl⟩ := Int.eq_ofNat_of_zero_le x0
    have hk : k < valsL.length := by simp [valsL]; omega
    have c0 := RY.out.cell k (by simpa [strV] using hk)
    rw [strV_get hk] at c0
    have hh := has_of_cell c0
    have k9 : (k : Int) < 6 := by omega
    have MEM := Lib.hid (List.all_eq_true.1 valsL_ok _ (List.getElem_mem hk))
    obtain ⟨s, hs⟩ : ∃ s, valsL[k] = s := ⟨_, rfl⟩
    rw [hs] at c0 MEM
    clear hm hs x0 x1
    go_wp2_with fail
    go_ret
    exact ⟨s, by have := MEM.out; simp at this; omega, rfl, MV.out⟩
  · go_wp2_with fail
    go_ret
    exact ⟨[100, 105, 115, 97, 98, 108, 101, 100, 0], by simp, rfl, M1.out⟩
  · go_wp2_with fail
    refine (nM_any w1 b len 9 T1.out (by omega) (by omega)).mono ?_
    rintro e w2 ⟨c, rfl, ⟨c0, c1⟩, hm2⟩
    have M2 := Lib.hid (M1.out.trans H.out.has hm2)
    clear hm2
    go_wp2_with fail
    go_loopw [5, 6] (fun v i wr => ∃ (m : Int) (l : List Int), i = .int .i64 m ∧ 0 ≤ m ∧ m + l.length ≤ 8 ∧ (∀ z ∈ l, 0 ≤ z ∧ z ≤ 255) ∧ (l = [] → v = .slice none 0 0) ∧ wr.ownsRow w.heap.size 5 1 v l.length (u8s l) ∧ Mv b len w wr) (fun _ i _ => (intOf i).toNat)
    case atStart => exact ⟨c, [], rfl, by omega, by simp; omega, by simp, fun _ => rfl, World.ownsRow_nil _ _ _ _, M2.out⟩
    case round =>
      obtain ⟨m, l, rfl, m0, m1, hl, hv0, ho, hm⟩ := hrel
      obtain ⟨va, vc, rfl⟩ := owns_slice ho
      have OW := Lib.hid ho
      have MV := Lib.hid hm
      have TW := Lib.hid (hm.tp H.out)
      have LS := Lib.hid hl
      have V0 := Lib.hid hv0
      clear hl ho hm hv0
      obtain ⟨nl, hnl⟩ : ∃ n, l.length = n := ⟨_, rfl⟩
      have NL := Lib.hid hnl
      rw [hnl] at m1 OW V0 ⊢
      by_cases hlt : 0 < m
      · clear hnl
        go_wp2_with fail
        refine (nM_any wr b len 256 TW.out (by omega) (by omega)).mono ?_
        rintro e w3 ⟨y, rfl, ⟨y0, y1⟩, hm3⟩
        have O3 := Lib.hid (Mv.owns hm3 OW.out hb)
        have M3 := Lib.hid (MV.out.trans H.out.has hm3)
        have T3 := Lib.hid (hm3.tp TW.out)
        clear hm3
        go_wp2_with fail
        have RX : Hid (Row (w3.alloc (.cells #[.int .i64 0, .int .i64 1, .int .i64 65, .int .i64 255, .int .i64 y] 3)) w3.heap.size 3 (nums [0, 1, 65, 255, y])) := Lib.hid (Row.new w3 #[.int .i64 0, .int .i64 1, .int .i64 65, .int .i64 255, .int .i64 y] 3)
        have GA := Lib.hid ((Gr.refl w3).alloc (.cells #[.int .i64 0, .int .i64 1, .int .i64 65, .int .i64 255, .int .i64 y] 3))
        have TA := Lib.hid (T3.out.gr GA.out)
        have ALL : ∀ z ∈ [0, 1, 65, 255, y], 0 ≤ z ∧ z ≤ 255 := by
          intro z hz
          simp only [List.mem_cons, List.not_mem_nil, or_false] at hz
          omega
        refine (pickM_any _ b len TA.out w3.heap.size 5 (fun x => 0 ≤ x ∧ x ≤ 255) (by omega) (by omega) (by have := T3.out.has; omega) (fun k hk => ?_)).mono ?_
        · have hk2 : k < [0, 1, 65, 255, y].length := hk
          refine ⟨_, RX.out.iat k hk2, ALL _ (List.getElem_mem hk2)⟩
        rintro e w4 ⟨z, rfl, ⟨z0, z1⟩, hm4⟩
        have O4 := Lib.hid ((Mv.owns hm4 (Gr.owns O3.out GA.out) hb).alloc (.cells #[.int .u8 z] 5))
        have M4 := Lib.hid ((M3.out.gr GA.out).trans H.out.has hm4)
        have NR := Lib.hid (row_cells (Row.new w4 #[.int .u8 z] 5))
        have S4 := Lib.hid M4.out.size
        clear hm4
        have zm : z % 256 = z := Int.emod_eq_of_lt z0 (by omega)
        go_wp2_with (at_builtin; refine wpList_append_own _ rfl _ _ 79 rfl w.heap.size 5 j0 (.int .u8 0) 1 1 Tryz.underlying79 hj hy0 hy1 hy2 rfl (by decide) _ nl (u8s l) rfl O4.out ⟨w4.heap.size, 0, none⟩ 1 1 [.int .u8 z] rfl rfl NR.out (by intro u hu; rw [List.mem_singleton.1 hu]; rfl) (by unfold maxLen; omega) (by omega) (by have := S4.out; simp; omega) ?_; intro v' wz hown' hgrow hnil; have HOz := Lib.hid hown'; have HGz := Lib.hid hgrow; clear hown' hgrow hnil)
        go_roundw
        case rel =>
          refine ⟨m - 1, l ++ [z], rfl, by omega, by rw [List.length_append, NL.out]; simp; omega, fun u hu => ?_, fun e => by simp at e, ?_, (M4.out.alloc _).grown HGz.out (fun j e => (owns_block O4.out j e).1)⟩
          · rcases List.mem_append.1 hu with q | q
            · exact LS.out u q
            · rw [List.mem_singleton.1 q]; exact ⟨z0, z1⟩
          · have := HOz.out
            rw [List.length_append, NL.out]
            simpa [u8s] using this
        case measure => simp [intOf]; omega
      · obtain rfl : m = 0 := by omega
        by_cases hl0 : l = []
        · have e := V0.out hl0
          cases e
          have hcv : (convert 79 9 (.slice none 0 0)).run Tryz.prog wr = .ok (.string (bs [])) wr := run_convert_bytes_nil (P := Tryz.prog) wr 79 5 Tryz.underlying79 Tryz.underlying5 0 0 9 Tryz.underlying9
          go_wp2_with fail
          go_ret
          exact ⟨[], by simp, rfl, MV.out⟩
        · have hpos : 0 < nl := by rw [← hnl]; exact List.length_pos_iff.2 hl0
          obtain ⟨g, cp, e1, _, _, hc⟩ := owns_cell OW.out hpos
          cases e1
          have hcv := run_convert_bytes_arg (P := Tryz.prog) wr 79 5 Tryz.underlying79 Tryz.underlying5 g 0 nl vc l (by omega)
            (fun i hi => by
              rw [Nat.zero_add, hc i (by omega)]
              have hl : i < l.length := by omega
              unfold u8s
              rw [List.getElem?_map, List.getElem?_eq_getElem hl, List.getD_eq_getElem?_getD, List.getElem?_eq_getElem hl]
              rfl) 9 Tryz.underlying9
          rw [show strOfNums l = bs (l.map (fun x => UInt8.ofNat x.toNat)) from rfl] at hcv
          obtain ⟨sx, hsx⟩ : ∃ sx : St, l.map (fun x => UInt8.ofNat x.toNat) = sx := ⟨_, rfl⟩
          have hlen : sx.length ≤ 100 := by rw [← hsx, List.length_map]; omega
          rw [hsx] at hcv
          clear hc OW V0 hsx
          go_wp2_with fail
          refine bodyPost_ret (v := .string (bs sx)) (by simp [results, Tryz.results15, go_sem]) rfl ?_
          exact ⟨sx, hlen, rfl, MV.out⟩
  · go_wp2_with fail
    refine (nM_any w1 b len 9 T1.out (by omega) (by omega)).mono ?_
    rintro e w2 ⟨c, rfl, ⟨c0, c1⟩, hm2⟩
    have M2 := Lib.hid (M1.out.trans H.out.has hm2)
    clear hm2
    go_wp2_with fail
    go_loopw [5, 6] (fun v i wr => ∃ (m : Int) (l : List Int), i = .int .i64 m ∧ 0 ≤ m ∧ m + l.length ≤ 8 ∧ (∀ z ∈ l, 0 ≤ z ∧ z ≤ 255) ∧ (l = [] → v = .slice none 0 0) ∧ wr.ownsRow w.heap.size 5 1 v l.length (u8s l) ∧ Mv b len w wr) (fun _ i _ => (intOf i).toNat)
    case atStart => exact ⟨c, [], rfl, by omega, by simp; omega, by simp, fun _ => rfl, World.ownsRow_nil _ _ _ _, M2.out⟩
    case round =>
      obtain ⟨m, l, rfl, m0, m1, hl, hv0, ho, hm⟩ := hrel
      obtain ⟨va, vc, rfl⟩ := owns_slice ho
      have OW := Lib.hid ho
      have MV := Lib.hid hm
      have TW := Lib.hid (hm.tp H.out)
      have LS := Lib.hid hl
      have V0 := Lib.hid hv0
      clear hl ho hm hv0
      obtain ⟨nl, hnl⟩ : ∃ n, l.length = n := ⟨_, rfl⟩
      have NL := Lib.hid hnl
      rw [hnl] at m1 OW V0 ⊢
      by_cases hlt : 0 < m
      · clear hnl
        go_wp2_with fail
        refine (nM_any wr b len 256 TW.out (by omega) (by omega)).mono ?_
        rintro e w3 ⟨y, rfl, ⟨y0, y1⟩, hm3⟩
        have O3 := Lib.hid (Mv.owns hm3 OW.out hb)
        have M3 := Lib.hid (MV.out.trans H.out.has hm3)
        have T3 := Lib.hid (hm3.tp TW.out)
        clear hm3
        go_wp2_with fail
        have RX : Hid (Row (w3.alloc (.cells #[.int .i64 0, .int .i64 1, .int .i64 65, .int .i64 255, .int .i64 y] 3)) w3.heap.size 3 (nums [0, 1, 65, 255, y])) := Lib.hid (Row.new w3 #[.int .i64 0, .int .i64 1, .int .i64 65, .int .i64 255, .int .i64 y] 3)
        have GA := Lib.hid ((Gr.refl w3).alloc (.cells #[.int .i64 0, .int .i64 1, .int .i64 65, .int .i64 255, .int .i64 y] 3))
        have TA := Lib.hid (T3.out.gr GA.out)
        have ALL : ∀ z ∈ [0, 1, 65, 255, y], 0 ≤ z ∧ z ≤ 255 := by
          intro z hz
          simp only [List.mem_cons, List.not_mem_nil, or_false] at hz
          omega
        refine (pickM_any _ b len TA.out w3.heap.size 5 (fun x => 0 ≤ x ∧ x ≤ 255) (by omega) (by omega) (by have := T3.out.has; omega) (fun k hk => ?_)).mono ?_
        · have hk2 : k < [0, 1, 65, 255, y].length := hk
          refine ⟨_, RX.out.iat k hk2, ALL _ (List.getElem_mem hk2)⟩
        rintro e w4 ⟨z, rfl, ⟨z0, z1⟩, hm4⟩
        have O4 := Lib.hid ((Mv.owns hm4 (Gr.owns O3.out GA.out) hb).alloc (.cells #[.int .u8 z] 5))
        have M4 := Lib.hid ((M3.out.gr GA.out).trans H.out.has hm4)
        have NR := Lib.hid (row_cells (Row.new w4 #[.int .u8 z] 5))
        have S4 := Lib.hid M4.out.size
        clear hm4
        have zm : z % 256 = z := Int.emod_eq_of_lt z0 (by omega)
        go_wp2_with (at_builtin; refine wpList_append_own _ rfl _ _ 79 rfl w.heap.size 5 j0 (.int .u8 0) 1 1 Tryz.underlying79 hj hy0 hy1 hy2 rfl (by decide) _ nl (u8s l) rfl O4.out ⟨w4.heap.size, 0, none⟩ 1 1 [.int .u8 z] rfl rfl NR.out (by intro u hu; rw [List.mem_singleton.1 hu]; rfl) (by unfold maxLen; omega) (by omega) (by have := S4.out; simp; omega) ?_; intro v' wz hown' hgrow hnil; have HOz := Lib.hid hown'; have HGz := Lib.hid hgrow; clear hown' hgrow hnil)
        go_roundw
        case rel =>
          refine ⟨m - 1, l ++ [z], rfl, by omega, by rw [List.length_append, NL.out]; simp; omega, fun u hu => ?_, fun e => by simp at e, ?_, (M4.out.alloc _).grown HGz.out (fun j e => (owns_block O4.out j e).1)⟩
          · rcases List.mem_append.1 hu with q | q
            · exact LS.out u q
            · rw [List.mem_singleton.1 q]; exact ⟨z0, z1⟩
          · have := HOz.out
            rw [List.length_append, NL.out]
            simpa [u8s] using this
        case measure => simp [intOf]; omega
      · obtain rfl : m = 0 := by omega
        by_cases hl0 : l = []
        · have e := V0.out hl0
          cases e
          have hcv : (convert 79 9 (.slice none 0 0)).run Tryz.prog wr = .ok (.string (bs [])) wr := run_convert_bytes_nil (P := Tryz.prog) wr 79 5 Tryz.underlying79 Tryz.underlying5 0 0 9 Tryz.underlying9
          go_wp2_with fail
          go_ret
          exact ⟨[], by simp, rfl, MV.out⟩
        · have hpos : 0 < nl := by rw [← hnl]; exact List.length_pos_iff.2 hl0
          obtain ⟨g, cp, e1, _, _, hc⟩ := owns_cell OW.out hpos
          cases e1
          have hcv := run_convert_bytes_arg (P := Tryz.prog) wr 79 5 Tryz.underlying79 Tryz.underlying5 g 0 nl vc l (by omega)
            (fun i hi => by
              rw [Nat.zero_add, hc i (by omega)]
              have hl : i < l.length := by omega
              unfold u8s
              rw [List.getElem?_map, List.getElem?_eq_getElem hl, List.getD_eq_getElem?_getD, List.getElem?_eq_getElem hl]
              rfl) 9 Tryz.underlying9
          rw [show strOfNums l = bs (l.map (fun x => UInt8.ofNat x.toNat)) from rfl] at hcv
          obtain ⟨sx, hsx⟩ : ∃ sx : St, l.map (fun x => UInt8.ofNat x.toNat) = sx := ⟨_, rfl⟩
          have hlen : sx.length ≤ 100 := by rw [← hsx, List.length_map]; omega
          rw [hsx] at hcv
          clear hc OW V0 hsx
          go_wp2_with fail
          refine bodyPost_ret (v := .string (bs sx)) (by simp [results, Tryz.results15, go_sem]) rfl ?_
          exact ⟨sx, hlen, rfl, MV.out⟩

def oddL : List St := [[], [47, 113], [47, 47], [97], [47, 97, 47]]
theorem oddL_ok : oddL.all (fun s => decide (s.length ≤ 31)) = true := by kernel_rfl
def pat3F (wr : World) (b len PB n cap : Nat) (ad : Option Addr) (ts : Tr) (t4 t13 t14 t15 t16 t17 t18 t19 : Value) (d : Array Bool) (w : World) : Prop :=
  (Mv b len wr w ∧ Row w PB 25 [.slice ad n cap]) ∧ (d.getD 0 false = true → t13 = .agg #[.slice ad n cap]) ∧
  (d.getD 1 false = true → t14 = .pointer (some ⟨b, 0, none⟩)) ∧
  (d.getD 2 false = true → t15 = .pointer (some ⟨PB, 0, none⟩)) ∧
  (d.getD 3 false = true → t16 = .slice ad n cap) ∧
  (d.getD 4 false = true → t17 = .int .i64 (n : Int)) ∧
  (d.getD 5 false = true → ∃ x : Nat, t18 = .int .i64 (x : Int) ∧ x < n) ∧
  (d.getD 6 false = true → ∃ s : St, t19 = .string (bs s) ∧ s.length ≤ 10000) ∧
  (d.getD 7 false = true → ∃ s : St, t4 = .string (bs s) ∧ s.length ≤ 10000)
def pat3A (b PB : Nat) (t4 t13 t14 t15 t16 t17 t18 t19 s1 s2 s5 s6 s7 s8 s9 s10 s11 s12 : Value) : Act := { tmps := #[.pointer (some ⟨b, 0, none⟩), s1, s2, .pointer (some ⟨PB, 0, none⟩), t4, s5, s6, s7, s8, s9, s10, s11, s12, t13, t14, t15, t16, t17, t18, t19], defers := [] }
theorem pat3 {Q : Exit → Act → World → Prop} {wr : World} {b len PB n cap : Nat} {ad : Option Addr} {ts : Tr}  {s1 s2 s4 s5 s6 s7 s8 s9 s10 s11 s12 s13 s14 s15 s16 s17 s18 s19 : Value} (htp : Tp wr b len) (hrow : Row wr PB 25 [.slice ad n cap]) (hnb : PB ≠ b) (hl : ts.length = n) (hn : 1 ≤ n ∧ n ≤ 120) (hv : VT ts) (hsl : ∀ W, Mv b len wr W → SlOf 3 RNod W ad ts)
    (h' : ∀ t4 t13 t14 t15 t16 t17 t18 t19 wx, (∃ s : St, t4 = .string (bs s) ∧ s.length ≤ 10000) → Mv b len wr wx → Q .normal (pat3A b PB t4 t13 t14 t15 t16 t17 t18 t19 s1 s2 s5 s6 s7 s8 s9 s10 s11 s12) wx) :
    (Code.region 3 (regIn 3 Tryz.f32) true).wp Tryz.prog Q { tmps := #[.pointer (some ⟨b, 0, none⟩), s1, s2, .pointer (some ⟨PB, 0, none⟩), s4, s5, s6, s7, s8, s9, s10, s11, s12, s13, s14, s15, s16, s17, s18, s19], defers := [] } wr := by
  have HTP := PLift.up htp
  have HRW := PLift.up hrow
  have HNB := PLift.up hnb
  have HL := PLift.up hl
  have HN := PLift.up hn
  have HV := PLift.up hv
  have HSL := PLift.up hsl
  have HBS := PLift.up htp.has
  clear htp hrow hnb hl hn hv hsl
  simp only [regIn, Tryz.f32, regOps, Option.bind_some, Option.getD_some, Nat.beq, cond_true, cond_false]
  refine wp_region_steps (fun done a w => ∃ t4 t13 t14 t15 t16 t17 t18 t19, a = pat3A b PB t4 t13 t14 t15 t16 t17 t18 t19 s1 s2 s5 s6 s7 s8 s9 s10 s11 s12 ∧ pat3F wr b len PB n cap ad ts t4 t13 t14 t15 t16 t17 t18 t19 done w) (by kernel_rfl) (by kernel_rfl) ?_ ⟨?_, ?_, ?_, ?_, ?_, ?_, ?_, ?_, trivial⟩ ?_
  · exact ⟨s4, s13, s14, s15, s16, s17, s18, s19, rfl, ⟨Mv.of_gr HTP.down (Gr.refl _).drew, HRW.down.drew⟩, fun q => absurd q (by decide), fun q => absurd q (by decide), fun q => absurd q (by decide), fun q => absurd q (by decide), fun q => absurd q (by decide), fun q => absurd q (by decide), fun q => absurd q (by decide), fun q => absurd q (by decide)⟩
  · rintro done a w hsz hnot hdep ⟨t4, t13, t14, t15, t16, t17, t18, t19, rfl, gw, f0, f1, f2, f3, f4, f5, f6, f7⟩ K hK
    have hn : ¬ done.getD 0 false = true := by rw [getD_both hnot]; decide
    have c0 : w.cell? ⟨PB, 0, none⟩ = some (.slice ad n cap) := gw.2.cell 0 (by simp)
    have ch := has_of_cell c0
    have HK := PLift.up hK
    clear hK 
    simp only [pat3A]
    go_simp
    have gg : Gr w w := Gr.refl _
    refine HK.down _ _ ⟨_, _, _, _, _, _, _, _, rfl, gw, fun _ => rfl, kp f1, kp f2, kp f3, kp f4, kp f5, kp f6, kp f7⟩
  · rintro done a w hsz hnot hdep ⟨t4, t13, t14, t15, t16, t17, t18, t19, rfl, gw, f0, f1, f2, f3, f4, f5, f6, f7⟩ K hK
    have hn : ¬ done.getD 1 false = true := by rw [getD_both hnot]; decide
    have HK := PLift.up hK
    clear hK 
    simp only [pat3A]
    go_simp
    have gg : Gr w w := Gr.refl _
    refine HK.down _ _ ⟨_, _, _, _, _, _, _, _, rfl, gw, kp f0, fun _ => rfl, kp f2, kp f3, kp f4, kp f5, kp f6, kp f7⟩
  · rintro done a w hsz hnot hdep ⟨t4, t13, t14, t15, t16, t17, t18, t19, rfl, gw, f0, f1, f2, f3, f4, f5, f6, f7⟩ K hK
    have hn : ¬ done.getD 2 false = true := by rw [getD_both hnot]; decide
    have HK := PLift.up hK
    clear hK 
    simp only [pat3A]
    go_simp
    have gg : Gr w w := Gr.refl _
    refine HK.down _ _ ⟨_, _, _, _, _, _, _, _, rfl, gw, kp f0, kp f1, fun _ => rfl, kp f3, kp f4, kp f5, kp f6, kp f7⟩
  · rintro done a w hsz hnot hdep ⟨t4, t13, t14, t15, t16, t17, t18, t19, rfl, gw, f0, f1, f2, f3, f4, f5, f6, f7⟩ K hK
    have hn : ¬ done.getD 3 false = true := by rw [getD_both hnot]; decide
    have d2 := hdep 2 (by kernel_rfl)
    obtain rfl := f2 d2
    have c0 : w.cell? ⟨PB, 0, none⟩ = some (.slice ad n cap) := gw.2.cell 0 (by simp)
    have ch := has_of_cell c0
    have HK := PLift.up hK
    clear hK d2
    simp only [pat3A]
    go_simp
    have gg : Gr w w := Gr.refl _
    refine HK.down _ _ ⟨_, _, _, _, _, _, _, _, rfl, gw, kp f0, kp f1, kp f2, fun _ => rfl, kp f4, kp f5, kp f6, kp f7⟩
  · rintro done a w hsz hnot hdep ⟨t4, t13, t14, t15, t16, t17, t18, t19, rfl, gw, f0, f1, f2, f3, f4, f5, f6, f7⟩ K hK
    have hn : ¬ done.getD 4 false = true := by rw [getD_both hnot]; decide
    have d3 := hdep 3 (by kernel_rfl)
    obtain rfl := f3 d3
    have HK := PLift.up hK
    clear hK d3
    simp only [pat3A]
    go_simp
    have gg : Gr w w := Gr.refl _
    refine HK.down _ _ ⟨_, _, _, _, _, _, _, _, rfl, gw, kp f0, kp f1, kp f2, kp f3, fun _ => rfl, kp f5, kp f6, kp f7⟩
  · rintro done a w hsz hnot hdep ⟨t4, t13, t14, t15, t16, t17, t18, t19, rfl, gw, f0, f1, f2, f3, f4, f5, f6, f7⟩ K hK
    have hn : ¬ done.getD 5 false = true := by rw [getD_both hnot]; decide
    have d1 := hdep 1 (by kernel_rfl)
    have d4 := hdep 4 (by kernel_rfl)
    obtain rfl := f1 d1
    obtain rfl := f4 d4
    have TP := PLift.up (gw.1.tp HTP.down)
    have GW := PLift.up gw
    have HK := PLift.up hK
    clear hK d1 d4
    simp only [pat3A]
    go_simp
    refine (nM_any w b len n TP.down (by have := HN.down.1; omega) (by have := HN.down.2; omega)).mono ?_
    rintro e w2 ⟨y, rfl, ⟨y0, y1⟩, hm⟩
    obtain ⟨x, rfl⟩ := Int.eq_ofNat_of_zero_le y0
    (try go_simp)
    refine HK.down _ _ ⟨_, _, _, _, _, _, _, _, rfl, ⟨GW.down.1.trans HBS.down hm, hm.row GW.down.2 HNB.down⟩, kp f0, kp f1, kp f2, kp f3, kp f4, ?_, kp f6, kp f7⟩
    exact fun _ => ⟨x, rfl, by omega⟩
  · rintro done a w hsz hnot hdep ⟨t4, t13, t14, t15, t16, t17, t18, t19, rfl, gw, f0, f1, f2, f3, f4, f5, f6, f7⟩ K hK
    have hn : ¬ done.getD 6 false = true := by rw [getD_both hnot]; decide
    have d0 := hdep 0 (by kernel_rfl)
    have d5 := hdep 5 (by kernel_rfl)
    obtain rfl := f0 d0
    obtain ⟨x, rfl, hx⟩ := f5 d5
    have GW := PLift.up gw
    have HX := PLift.up hx
    obtain ⟨s, hs, hsl⟩ := HV.down.pathEx (k := x) (by rw [HL.down]; exact hx)
    have PS := PLift.up hs
    clear hs
    have HK := PLift.up hK
    clear hK d0
    simp only [pat3A]
    go_simp
    have LK := rPath_ok ts ad cap x s w (HSL.down w GW.down.1) HV.down (by rw [HL.down]; exact HX.down) PS.down
    rw [HL.down] at LK
    refine LK.mono ?_
    rintro e w2 ⟨rfl, hg⟩
    (try go_simp)
    refine HK.down _ _ ⟨_, _, _, _, _, _, _, _, rfl, ⟨GW.down.1.gr hg, GW.down.2.gr hg⟩, kp f0, kp f1, kp f2, kp f3, kp f4, fun _ => ⟨x, rfl, HX.down⟩, ?_, kp f7⟩
    exact fun _ => ⟨s, rfl, hsl⟩
  · rintro done a w hsz hnot hdep ⟨t4, t13, t14, t15, t16, t17, t18, t19, rfl, gw, f0, f1, f2, f3, f4, f5, f6, f7⟩ K hK
    have hn : ¬ done.getD 7 false = true := by rw [getD_both hnot]; decide
    have d6 := hdep 6 (by kernel_rfl)
    obtain ⟨s, rfl, hsl⟩ := f6 d6
    have HK := PLift.up hK
    clear hK 
    simp only [pat3A]
    go_simp
    have gg : Gr w w := Gr.refl _
    refine HK.down _ _ ⟨_, _, _, _, _, _, _, _, rfl, gw, kp f0, kp f1, kp f2, kp f3, kp f4, kp f5, fun _ => ⟨s, rfl, hsl⟩, ?_⟩
    exact fun _ => ⟨s, rfl, hsl⟩
  · rintro done a w hall ⟨t4, t13, t14, t15, t16, t17, t18, t19, rfl, gw, f0, f1, f2, f3, f4, f5, f6, f7⟩
    exact h' _ _ _ _ _ _ _ _ w (f7 (hall 7 (by decide))) gw.1
theorem gPath_any (base : Nat) (ms : List NM) (a : Option Addr) (n cap b len : Nat) (w : World) (ht : Tp w b len) (h : TrAt base w (.slice a n cap) ms) (hv : VT (ms.map NM.n)) (hbs : b < base ∧ base ≤ w.heap.size) :
    Calls Tryz.prog 32 #[.pointer (some ⟨b, 0, none⟩), .agg #[.slice a n cap]] w fun e w' => ∃ s : St, s.length ≤ 10000 ∧ e = .returned (.string (bs s)) ∧ Mv b len w w' := by
  have nl := h.sl.1
  have H := Lib.hid ht
  have HT := Lib.hid h
  have HV := Lib.hid hv
  have LL : Hid ((ms.map NM.n).length = n) := Lib.hid (by rw [List.length_map]; exact nl.symm)
  have hb := ht.has
  have hbb := hbs.1
  have n1 := hv.pos
  have n2 := hv.few
  rw [LL.out] at n1 n2
  clear h hv ht nl
  go_enter Tryz.func32, Tryz.ntmps32
  go_upto_region 1 with (fail)
  have R1 := Lib.hid (Row.new w #[.slice a n cap] 25)
  obtain ⟨W, hW⟩ : ∃ W : World, Hid (W = w.alloc (.cells #[.slice a n cap] 25)) := ⟨_, Lib.hid rfl⟩
  have GW : Hid (Gr w W) := Lib.hid (by rw [hW.out]; exact (Gr.refl _).alloc _)
  rw [← hW.out] at R1 ⊢
  clear hW
  have T0 := Lib.hid (H.out.gr GW.out)
  go_wp2_with fail
  refine (nM_any W b len 30 T0.out (by omega) (by omega)).mono ?_
  rintro e w1 ⟨x, rfl, ⟨x0, x1⟩, hm⟩
  have M1 := Lib.hid ((Mv.of_gr H.out GW.out).trans H.out.has hm)
  have T1 := Lib.hid (hm.tp T0.out)
  have S1 := Lib.hid (hm.row R1.out (by omega))
  clear hm R1
  by_cases hx : x = 29
  · have xb : (x == 29) = true := by rw [hx]; rfl
    go_wp2_with fail
    have RX : Hid (Row (w1.alloc (.cells #[.string ⟨#[]⟩, .string ⟨#[47, 113]⟩, .string ⟨#[47, 47]⟩, .string ⟨#[97]⟩, .string ⟨#[47, 97, 47]⟩] 9)) w1.heap.size 9 (strV oddL)) := Lib.hid (Row.new w1 #[.string ⟨#[]⟩, .string ⟨#[47, 113]⟩, .string ⟨#[47, 47]⟩, .string ⟨#[97]⟩, .string ⟨#[47, 97, 47]⟩] 9)
    obtain ⟨W2, hW⟩ : ∃ W : World, Hid (W = w1.alloc (.cells #[.string ⟨#[]⟩, .string ⟨#[47, 113]⟩, .string ⟨#[47, 47]⟩, .string ⟨#[97]⟩, .string ⟨#[47, 97, 47]⟩] 9)) := ⟨_, Lib.hid rfl⟩
    have GW2 : Hid (Gr w1 W2) := Lib.hid (by rw [hW.out]; exact (Gr.refl _).alloc _)
    rw [← hW.out] at RX ⊢
    clear hW
    have B1 := M1.out.size
    refine (nM_any W2 b len 5 (T1.out.gr GW2.out) (by omega) (by omega)).mono ?_
    rintro e w2 ⟨y, rfl, ⟨y0, y1⟩, hm⟩
    have MV := Lib.hid ((M1.out.gr GW2.out).trans H.out.has hm)
    have RY := Lib.hid (hm.row RX.out (by omega))
    obtain ⟨k, rfl⟩ := Int.eq_ofNat_of_zero_le y0
    have hk : k < oddL.length := by simp [oddL]; omega
    have c0 := RY.out.cell k (by simpa [strV] using hk)
    rw [strV_get hk] at c0
    have hh := has_of_cell c0
    have k9 : (k : Int) < 5 := by omega
    have MEM := Lib.hid (List.all_eq_true.1 oddL_ok _ (List.getElem_mem hk))
    obtain ⟨s, hs⟩ : ∃ s, oddL[k] = s := ⟨_, rfl⟩
    rw [hs] at c0 MEM
    clear hm hs y0 y1
    go_wp2_with fail
    go_ret
    exact ⟨s, by have := MEM.out; simp at this; omega, rfl, MV.out⟩
  · have xb : (x == 29) = false := by rw [beq_eq_false_iff_ne]; exact hx
    go_wp2_with fail
    refine wp_code_eq (c := Code.region 3 (regIn 3 Tryz.f32) true) (by kernel_rfl) (pat3 (wr := w1) (b := b) (len := len) (PB := w.heap.size) (n := n) (cap := cap) (ad := a) (ts := ms.map NM.n) T1.out S1.out (by omega) LL.out ⟨by omega, n2⟩ HV.out (fun W hm => ((HT.out.mv hbb (M1.out.trans H.out.has hm)).sl).2) ?_)
    intro t4 t13 t14 t15 t16 t17 t18 t19 wx ⟨s, hs, hsl⟩ hm
    subst hs
    have MV := Lib.hid (M1.out.trans H.out.has hm)
    clear hm
    unfold pat3A
    go_wp2_with fail
    go_ret
    exact ⟨s, hsl, rfl, MV.out⟩
def StepV (base n : Nat) (w : World) (v : Value) (er : Nat) : Prop := (0 < er ∧ er ≤ 8 ∧ v = .slice none 0 0) ∨ (er = 0 ∧ ∃ ms : List NM, TrAt base w v ms ∧ VB (ms.map NM.n) ∧ ms.length = n + 1)
theorem StepV.one {base n : Nat} {w : World} {v : Value} {er : Nat} (h : StepV base n w v er) : ∃ a m c, v = .slice a m c := by
  rcases h with ⟨_, _, rfl⟩ | ⟨_, ms, h, _⟩
  · exact ⟨_, _, _, rfl⟩
  · obtain ⟨a, c, e⟩ := owns_slice h.own; exact ⟨_, _, _, e⟩
theorem StepV.gr {base n : Nat} {w w' : World} {v : Value} {er : Nat} (h : StepV base n w v er) (hg : Gr w w') : StepV base n w' v er := h.imp id fun ⟨e, ms, h1, h2⟩ => ⟨e, ms, h1.gr hg, h2⟩
theorem StepV.mv {base n b len : Nat} {w w' : World} {v : Value} {er : Nat} (h : StepV base n w v er) (hb : b < base) (hm : Mv b len w w') : StepV base n w' v er := h.imp id fun ⟨e, ms, h1, h2⟩ => ⟨e, ms, h1.mv hb hm, h2⟩
theorem StepV.box {base n B o : Nat} {w : World} {v u : Value} {vs : List Value} {er : Nat} (h : StepV base n w v er) (hr : Row w B 25 vs) : StepV base n (w.setCell ⟨B, o, none⟩ u) v er := h.imp id fun ⟨e, ms, h1, h2⟩ => ⟨e, ms, h1.box hr.ty (by decide) (h1.ne_ty hr.ty (by decide)), h2⟩
def stp1F (wr : World) (b len PB P2 n cap base : Nat) (ad : Option Addr) (ms : List NM) (t5 t6 t7 t8 t9 t10 t11 t12 t13 t14 t15 t16 : Value) (d : Array Bool) (w : World) : Prop :=
  (Mv b len wr w ∧ Row w PB 25 [.slice ad n cap]) ∧ (d.getD 0 false = true → t8 = .agg #[.slice ad n cap]) ∧
  (d.getD 1 false = true → t9 = .pointer (some ⟨b, 0, none⟩)) ∧
  (d.getD 2 false = true → t10 = .agg #[.slice ad n cap]) ∧
  (d.getD 3 false = true → ∃ s : St, t11 = .string (bs s)) ∧
  (d.getD 4 false = true → t12 = .pointer (some ⟨b, 0, none⟩)) ∧
  (d.getD 5 false = true → ∃ x : St, t13 = .string (bs x) ∧ x ∈ nodesV) ∧
  (d.getD 6 false = true → ∃ (v : Value) (er : Nat), t14 = .tuple #[.agg #[v], .int .i64 (er : Int)] ∧ StepV base n w v er) ∧
  (d.getD 7 false = true → (d.getD 6 false = true ∧ t7 = t14)) ∧
  (d.getD 8 false = true → (d.getD 6 false = true ∧ ∃ (v : Value) (er : Nat), t14 = .tuple #[.agg #[v], .int .i64 (er : Int)] ∧ t15 = .agg #[v])) ∧
  (d.getD 9 false = true → (d.getD 6 false = true ∧ ∃ (v : Value) (er : Nat), t14 = .tuple #[.agg #[v], .int .i64 (er : Int)] ∧ t16 = .int .i64 (er : Int))) ∧
  (d.getD 10 false = true → ∃ B, t5 = .pointer (some ⟨B, 0, none⟩) ∧ wr.heap.size ≤ B ∧ (d.getD 11 false = false → Row w B 25 [.slice none 0 0])) ∧
  (d.getD 11 false = true → (d.getD 6 false = true ∧ d.getD 10 false = true ∧ ∃ (v : Value) (er B : Nat), t14 = .tuple #[.agg #[v], .int .i64 (er : Int)] ∧ t5 = .pointer (some ⟨B, 0, none⟩) ∧ wr.heap.size ≤ B ∧ Row w B 25 [v])) ∧
  (d.getD 12 false = true → (d.getD 6 false = true ∧ ∃ (v : Value) (er : Nat), t14 = .tuple #[.agg #[v], .int .i64 (er : Int)] ∧ t6 = .int .i64 (er : Int)))
def stp1A (b PB P2 : Nat) (t5 t6 t7 t8 t9 t10 t11 t12 t13 t14 t15 t16 s1 s2 s17 s18 s19 s20 : Value) : Act := { tmps := #[.pointer (some ⟨b, 0, none⟩), s1, s2, .pointer (some ⟨PB, 0, none⟩), .pointer (some ⟨P2, 0, none⟩), t5, t6, t7, t8, t9, t10, t11, t12, t13, t14, t15, t16, s17, s18, s19, s20], defers := [] }
theorem stp1 {Q : Exit → Act → World → Prop} {wr : World} {b len PB P2 n cap base : Nat} {ad : Option Addr} {ms : List NM}  {s1 s2 s5 s6 s7 s8 s9 s10 s11 s12 s13 s14 s15 s16 s17 s18 s19 s20 : Value} (htp : Tp wr b len) (hrow : Row wr PB 25 [.slice ad n cap]) (hnb : PB ≠ b ∧ b < base ∧ b < wr.heap.size ∧ base ≤ wr.heap.size ∧ PB < wr.heap.size) (hl : (ms.map NM.n).length = n) (hv : VB (ms.map NM.n)) (htr : TrAt base wr (.slice ad n cap) ms)
    (h' : ∀ t5 t6 t7 t8 t9 t10 t11 t12 t13 t14 t15 t16 wx, (∃ (v : Value) (er B : Nat), t6 = .int .i64 (er : Int) ∧ t5 = .pointer (some ⟨B, 0, none⟩) ∧ wr.heap.size ≤ B ∧ Row wx B 25 [v] ∧ StepV base n wx v er) → Mv b len wr wx → Row wx PB 25 [.slice ad n cap] → Q .normal (stp1A b PB P2 t5 t6 t7 t8 t9 t10 t11 t12 t13 t14 t15 t16 s1 s2 s17 s18 s19 s20) wx) :
    (Code.region 1 (regIn 1 Tryz.f30) true).wp Tryz.prog Q { tmps := #[.pointer (some ⟨b, 0, none⟩), s1, s2, .pointer (some ⟨PB, 0, none⟩), .pointer (some ⟨P2, 0, none⟩), s5, s6, s7, s8, s9, s10, s11, s12, s13, s14, s15, s16, s17, s18, s19, s20], defers := [] } wr := by
  have HTP := PLift.up htp
  have HRW := PLift.up hrow
  have HNB := PLift.up (show PB ≠ b ∧ b < base ∧ (b < wr.heap.size ∧ PB < wr.heap.size) ∧ base ≤ wr.heap.size from ⟨hnb.1, hnb.2.1, ⟨hnb.2.2.1, hnb.2.2.2.2⟩, hnb.2.2.2.1⟩)
  have HL := PLift.up hl
  have HV := PLift.up hv
  have HTR := PLift.up htr
  have HBS := PLift.up htp.has
  clear htp hrow hnb hl hv htr
  simp only [regIn, Tryz.f30, regOps, Option.bind_some, Option.getD_some, Nat.beq, cond_true, cond_false]
  refine wp_region_steps (fun done a w => ∃ t5 t6 t7 t8 t9 t10 t11 t12 t13 t14 t15 t16, a = stp1A b PB P2 t5 t6 t7 t8 t9 t10 t11 t12 t13 t14 t15 t16 s1 s2 s17 s18 s19 s20 ∧ stp1F wr b len PB P2 n cap base ad ms t5 t6 t7 t8 t9 t10 t11 t12 t13 t14 t15 t16 done w) (by kernel_rfl) (by kernel_rfl) ?_ ⟨?_, ?_, ?_, ?_, ?_, ?_, ?_, ?_, ?_, ?_, ?_, ?_, ?_, trivial⟩ ?_
  · exact ⟨s5, s6, s7, s8, s9, s10, s11, s12, s13, s14, s15, s16, rfl, ⟨Mv.of_gr HTP.down (Gr.refl _).drew, HRW.down.drew⟩, fun q => absurd q (by decide), fun q => absurd q (by decide), fun q => absurd q (by decide), fun q => absurd q (by decide), fun q => absurd q (by decide), fun q => absurd q (by decide), fun q => absurd q (by decide), fun q => absurd q (by decide), fun q => absurd q (by decide), fun q => absurd q (by decide), fun q => absurd q (by decide), fun q => absurd q (by decide), fun q => absurd q (by decide)⟩
  · rintro done a w hsz hnot hdep ⟨t5, t6, t7, t8, t9, t10, t11, t12, t13, t14, t15, t16, rfl, gw, f0, f1, f2, f3, f4, f5, f6, f7, f8, f9, f10, f11, f12⟩ K hK
    have hn : ¬ done.getD 0 false = true := by rw [getD_both hnot]; decide
    have c0 : w.cell? ⟨PB, 0, none⟩ = some (.slice ad n cap) := gw.2.cell 0 (by simp)
    have ch := has_of_cell c0
    have HK := PLift.up hK
    clear hK 
    simp only [stp1A]
    go_simp
    have gg : Gr w w := Gr.refl _
    refine HK.down _ _ ⟨_, _, _, _, _, _, _, _, _, _, _, _, rfl, gw, fun _ => rfl, kp f1, kp f2, kp f3, kp f4, kp f5, kp f6, fun q => (let h := f7 (done_old q (by decide)); ⟨getD_set_true h.1, h.2⟩), fun q => (let h := f8 (done_old q (by decide)); ⟨getD_set_true h.1, h.2⟩), fun q => (let h := f9 (done_old q (by decide)); ⟨getD_set_true h.1, h.2⟩), fun q => (let ⟨B, e, h1, h2⟩ := f10 (done_old q (by decide)); ⟨B, e, h1, fun q2 => h2 (by rw [getD_set_ne false (by decide)] at q2; exact q2)⟩), fun q => (let ⟨h1, h2, v, er, B, e1, e2, h3, h4⟩ := f11 (done_old q (by decide)); ⟨getD_set_true h1, getD_set_true h2, v, er, B, e1, e2, h3, h4⟩), fun q => (let h := f12 (done_old q (by decide)); ⟨getD_set_true h.1, h.2⟩)⟩
  · rintro done a w hsz hnot hdep ⟨t5, t6, t7, t8, t9, t10, t11, t12, t13, t14, t15, t16, rfl, gw, f0, f1, f2, f3, f4, f5, f6, f7, f8, f9, f10, f11, f12⟩ K hK
    have hn : ¬ done.getD 1 false = true := by rw [getD_both hnot]; decide
    have HK := PLift.up hK
    clear hK 
    simp only [stp1A]
    go_simp
    have gg : Gr w w := Gr.refl _
    refine HK.down _ _ ⟨_, _, _, _, _, _, _, _, _, _, _, _, rfl, gw, kp f0, fun _ => rfl, kp f2, kp f3, kp f4, kp f5, kp f6, fun q => (let h := f7 (done_old q (by decide)); ⟨getD_set_true h.1, h.2⟩), fun q => (let h := f8 (done_old q (by decide)); ⟨getD_set_true h.1, h.2⟩), fun q => (let h := f9 (done_old q (by decide)); ⟨getD_set_true h.1, h.2⟩), fun q => (let ⟨B, e, h1, h2⟩ := f10 (done_old q (by decide)); ⟨B, e, h1, fun q2 => h2 (by rw [getD_set_ne false (by decide)] at q2; exact q2)⟩), fun q => (let ⟨h1, h2, v, er, B, e1, e2, h3, h4⟩ := f11 (done_old q (by decide)); ⟨getD_set_true h1, getD_set_true h2, v, er, B, e1, e2, h3, h4⟩), fun q => (let h := f12 (done_old q (by decide)); ⟨getD_set_true h.1, h.2⟩)⟩
  · rintro done a w hsz hnot hdep ⟨t5, t6, t7, t8, t9, t10, t11, t12, t13, t14, t15, t16, rfl, gw, f0, f1, f2, f3, f4, f5, f6, f7, f8, f9, f10, f11, f12⟩ K hK
    have hn : ¬ done.getD 2 false = true := by rw [getD_both hnot]; decide
    have c0 : w.cell? ⟨PB, 0, none⟩ = some (.slice ad n cap) := gw.2.cell 0 (by simp)
    have ch := has_of_cell c0
    have HK := PLift.up hK
    clear hK 
    simp only [stp1A]
    go_simp
    have gg : Gr w w := Gr.refl _
    refine HK.down _ _ ⟨_, _, _, _, _, _, _, _, _, _, _, _, rfl, gw, kp f0, kp f1, fun _ => rfl, kp f3, kp f4, kp f5, kp f6, fun q => (let h := f7 (done_old q (by decide)); ⟨getD_set_true h.1, h.2⟩), fun q => (let h := f8 (done_old q (by decide)); ⟨getD_set_true h.1, h.2⟩), fun q => (let h := f9 (done_old q (by decide)); ⟨getD_set_true h.1, h.2⟩), fun q => (let ⟨B, e, h1, h2⟩ := f10 (done_old q (by decide)); ⟨B, e, h1, fun q2 => h2 (by rw [getD_set_ne false (by decide)] at q2; exact q2)⟩), fun q => (let ⟨h1, h2, v, er, B, e1, e2, h3, h4⟩ := f11 (done_old q (by decide)); ⟨getD_set_true h1, getD_set_true h2, v, er, B, e1, e2, h3, h4⟩), fun q => (let h := f12 (done_old q (by decide)); ⟨getD_set_true h.1, h.2⟩)⟩
  · rintro done a w hsz hnot hdep ⟨t5, t6, t7, t8, t9, t10, t11, t12, t13, t14, t15, t16, rfl, gw, f0, f1, f2, f3, f4, f5, f6, f7, f8, f9, f10, f11, f12⟩ K hK
    have hn : ¬ done.getD 3 false = true := by rw [getD_both hnot]; decide
    have d1 := hdep 1 (by kernel_rfl)
    have d2 := hdep 2 (by kernel_rfl)
    obtain rfl := f1 d1
    obtain rfl := f2 d2
    have TP := PLift.up (gw.1.tp HTP.down)
    have GW := PLift.up gw
    have HK := PLift.up hK
    clear hK d1 d2
    simp only [stp1A]
    go_simp
    refine (gPath_any base ms ad n cap b len w TP.down (HTR.down.mv HNB.down.2.1 GW.down.1) HV.down.v ⟨HNB.down.2.1, by have := GW.down.1.size; have := HNB.down.2.2.2; omega⟩).mono ?_
    rintro e w2 ⟨s, _, rfl, hm⟩
    (try go_simp)
    refine HK.down _ _ ⟨_, _, _, _, _, _, _, _, _, _, _, _, rfl, ⟨GW.down.1.trans HBS.down hm, hm.row GW.down.2 HNB.down.1⟩, kp f0, kp f1, kp f2, ?_, kp f4, kp f5, fun q => (let ⟨v, er, e, hs⟩ := f6 (done_old q (by decide)); ⟨v, er, e, hs.mv HNB.down.2.1 hm⟩), fun q => (let h := f7 (done_old q (by decide)); ⟨getD_set_true h.1, h.2⟩), fun q => (let h := f8 (done_old q (by decide)); ⟨getD_set_true h.1, h.2⟩), fun q => (let h := f9 (done_old q (by decide)); ⟨getD_set_true h.1, h.2⟩), fun q => (let ⟨B, e, h1, h2⟩ := f10 (done_old q (by decide)); ⟨B, e, h1, fun q2 => hm.row (h2 (by rw [getD_set_ne false (by decide)] at q2; exact q2)) (by have := HNB.down.2.2.1; omega)⟩), fun q => (let ⟨h1, h2, v, er, B, e1, e2, h3, h4⟩ := f11 (done_old q (by decide)); ⟨getD_set_true h1, getD_set_true h2, v, er, B, e1, e2, h3, hm.row h4 (by have := HNB.down.2.2.1; omega)⟩), fun q => (let h := f12 (done_old q (by decide)); ⟨getD_set_true h.1, h.2⟩)⟩
    exact fun _ => ⟨s, rfl⟩
  · rintro done a w hsz hnot hdep ⟨t5, t6, t7, t8, t9, t10, t11, t12, t13, t14, t15, t16, rfl, gw, f0, f1, f2, f3, f4, f5, f6, f7, f8, f9, f10, f11, f12⟩ K hK
    have hn : ¬ done.getD 4 false = true := by rw [getD_both hnot]; decide
    have HK := PLift.up hK
    clear hK 
    simp only [stp1A]
    go_simp
    have gg : Gr w w := Gr.refl _
    refine HK.down _ _ ⟨_, _, _, _, _, _, _, _, _, _, _, _, rfl, gw, kp f0, kp f1, kp f2, kp f3, fun _ => rfl, kp f5, kp f6, fun q => (let h := f7 (done_old q (by decide)); ⟨getD_set_true h.1, h.2⟩), fun q => (let h := f8 (done_old q (by decide)); ⟨getD_set_true h.1, h.2⟩), fun q => (let h := f9 (done_old q (by decide)); ⟨getD_set_true h.1, h.2⟩), fun q => (let ⟨B, e, h1, h2⟩ := f10 (done_old q (by decide)); ⟨B, e, h1, fun q2 => h2 (by rw [getD_set_ne false (by decide)] at q2; exact q2)⟩), fun q => (let ⟨h1, h2, v, er, B, e1, e2, h3, h4⟩ := f11 (done_old q (by decide)); ⟨getD_set_true h1, getD_set_true h2, v, er, B, e1, e2, h3, h4⟩), fun q => (let h := f12 (done_old q (by decide)); ⟨getD_set_true h.1, h.2⟩)⟩
  · rintro done a w hsz hnot hdep ⟨t5, t6, t7, t8, t9, t10, t11, t12, t13, t14, t15, t16, rfl, gw, f0, f1, f2, f3, f4, f5, f6, f7, f8, f9, f10, f11, f12⟩ K hK
    have hn : ¬ done.getD 5 false = true := by rw [getD_both hnot]; decide
    have d4 := hdep 4 (by kernel_rfl)
    obtain rfl := f4 d4
    have TP := PLift.up (gw.1.tp HTP.down)
    have GW := PLift.up gw
    have HK := PLift.up hK
    clear hK d4
    simp only [stp1A]
    go_simp
    refine (tName_any w b len TP.down).mono ?_
    rintro e w2 ⟨x, hx, rfl, hm⟩
    (try go_simp)
    refine HK.down _ _ ⟨_, _, _, _, _, _, _, _, _, _, _, _, rfl, ⟨GW.down.1.trans HBS.down hm, hm.row GW.down.2 HNB.down.1⟩, kp f0, kp f1, kp f2, kp f3, kp f4, ?_, fun q => (let ⟨v, er, e, hs⟩ := f6 (done_old q (by decide)); ⟨v, er, e, hs.mv HNB.down.2.1 hm⟩), fun q => (let h := f7 (done_old q (by decide)); ⟨getD_set_true h.1, h.2⟩), fun q => (let h := f8 (done_old q (by decide)); ⟨getD_set_true h.1, h.2⟩), fun q => (let h := f9 (done_old q (by decide)); ⟨getD_set_true h.1, h.2⟩), fun q => (let ⟨B, e, h1, h2⟩ := f10 (done_old q (by decide)); ⟨B, e, h1, fun q2 => hm.row (h2 (by rw [getD_set_ne false (by decide)] at q2; exact q2)) (by have := HNB.down.2.2.1; omega)⟩), fun q => (let ⟨h1, h2, v, er, B, e1, e2, h3, h4⟩ := f11 (done_old q (by decide)); ⟨getD_set_true h1, getD_set_true h2, v, er, B, e1, e2, h3, hm.row h4 (by have := HNB.down.2.2.1; omega)⟩), fun q => (let h := f12 (done_old q (by decide)); ⟨getD_set_true h.1, h.2⟩)⟩
    exact fun _ => ⟨x, rfl, hx⟩
  · rintro done a w hsz hnot hdep ⟨t5, t6, t7, t8, t9, t10, t11, t12, t13, t14, t15, t16, rfl, gw, f0, f1, f2, f3, f4, f5, f6, f7, f8, f9, f10, f11, f12⟩ K hK
    have hn : ¬ done.getD 6 false = true := by rw [getD_both hnot]; decide
    have d0 := hdep 0 (by kernel_rfl)
    have d3 := hdep 3 (by kernel_rfl)
    have d5 := hdep 5 (by kernel_rfl)
    obtain rfl := f0 d0
    obtain ⟨s, rfl⟩ := f3 d3
    obtain ⟨x, rfl, hx⟩ := f5 d5
    have HX := PLift.up hx
    have GW := PLift.up gw
    have HK := PLift.up hK
    clear hK d0
    simp only [stp1A]
    go_simp
    have LK := rAdd_ok (ms.map NM.n) ad cap s x w ((HTR.down.mv HNB.down.2.1 GW.down.1).sl).2 HV.down.v HX.down
    have LK2 : Calls Tryz.prog 74 #[.agg #[.slice ad n cap], .string (bs s), .string (bs x)] w (GivesTE w (ms.map NM.n)) := by have q := LK; rw [HL.down] at q; exact q
    refine LK2.mono ?_
    rintro e w2 ⟨hg, hq⟩
    have ST : PLift (∃ (v : Value) (er : Nat), e = .returned (.tuple #[.agg #[v], .int .i64 (er : Int)]) ∧ StepV base n w2 v er) := PLift.up (by
      rcases hq with ⟨er, e1, e2, rfl⟩ | ⟨v, m2, rfl, h1, h2, h2x, h3⟩
      · exact ⟨_, er, rfl, .inl ⟨e1, e2, rfl⟩⟩
      · exact ⟨v, 0, rfl, .inr ⟨rfl, m2, h1.low (by have := GW.down.1.size; have := HNB.down.2.2.2; omega), ⟨h2, h2x HV.down.x⟩, by rw [h3, HL.down]⟩⟩)
    clear hq
    obtain ⟨v, er, rfl, hs⟩ := ST.down
    (try go_simp)
    refine HK.down _ _ ⟨_, _, _, _, _, _, _, _, _, _, _, _, rfl, ⟨GW.down.1.gr hg, GW.down.2.gr hg⟩, kp f0, kp f1, kp f2, fun _ => ⟨s, rfl⟩, kp f4, fun _ => ⟨x, rfl, HX.down⟩, ?_, fun q => absurd (f7 (done_old q (by decide))).1 hn, fun q => absurd (f8 (done_old q (by decide))).1 hn, fun q => absurd (f9 (done_old q (by decide))).1 hn, fun q => (let ⟨B, e, h1, h2⟩ := f10 (done_old q (by decide)); ⟨B, e, h1, fun q2 => (h2 (by rw [getD_set_ne false (by decide)] at q2; exact q2)).gr hg⟩), fun q => absurd (f11 (done_old q (by decide))).1 hn, fun q => absurd (f12 (done_old q (by decide))).1 hn⟩
    exact fun _ => ⟨v, er, rfl, hs⟩
  · rintro done a w hsz hnot hdep ⟨t5, t6, t7, t8, t9, t10, t11, t12, t13, t14, t15, t16, rfl, gw, f0, f1, f2, f3, f4, f5, f6, f7, f8, f9, f10, f11, f12⟩ K hK
    have hn : ¬ done.getD 7 false = true := by rw [getD_both hnot]; decide
    have d6 := hdep 6 (by kernel_rfl)
    have D6 := PLift.up d6
    obtain ⟨v, er, rfl, hs⟩ := f6 d6
    have HK := PLift.up hK
    clear hK 
    simp only [stp1A]
    go_simp
    have gg : Gr w w := Gr.refl _
    refine HK.down _ _ ⟨_, _, _, _, _, _, _, _, _, _, _, _, rfl, gw, kp f0, kp f1, kp f2, kp f3, kp f4, kp f5, fun _ => ⟨v, er, rfl, hs⟩, ?_, fun q => (let h := f8 (done_old q (by decide)); ⟨getD_set_true h.1, h.2⟩), fun q => (let h := f9 (done_old q (by decide)); ⟨getD_set_true h.1, h.2⟩), fun q => (let ⟨B, e, h1, h2⟩ := f10 (done_old q (by decide)); ⟨B, e, h1, fun q2 => h2 (by rw [getD_set_ne false (by decide)] at q2; exact q2)⟩), fun q => (let ⟨h1, h2, v, er, B, e1, e2, h3, h4⟩ := f11 (done_old q (by decide)); ⟨getD_set_true h1, getD_set_true h2, v, er, B, e1, e2, h3, h4⟩), fun q => (let h := f12 (done_old q (by decide)); ⟨getD_set_true h.1, h.2⟩)⟩
    exact fun _ => ⟨getD_set_true D6.down, rfl⟩
  · rintro done a w hsz hnot hdep ⟨t5, t6, t7, t8, t9, t10, t11, t12, t13, t14, t15, t16, rfl, gw, f0, f1, f2, f3, f4, f5, f6, f7, f8, f9, f10, f11, f12⟩ K hK
    have hn : ¬ done.getD 8 false = true := by rw [getD_both hnot]; decide
    have d7 := hdep 7 (by kernel_rfl)
    obtain ⟨D6, rfl⟩ := f7 d7
    have D6 := PLift.up D6
    obtain ⟨v, er, rfl, hs⟩ := f6 D6.down
    have HK := PLift.up hK
    clear hK 
    simp only [stp1A]
    go_simp
    have gg : Gr w w := Gr.refl _
    refine HK.down _ _ ⟨_, _, _, _, _, _, _, _, _, _, _, _, rfl, gw, kp f0, kp f1, kp f2, kp f3, kp f4, kp f5, fun _ => ⟨v, er, rfl, hs⟩, fun _ => ⟨getD_set_true D6.down, rfl⟩, ?_, fun q => (let h := f9 (done_old q (by decide)); ⟨getD_set_true h.1, h.2⟩), fun q => (let ⟨B, e, h1, h2⟩ := f10 (done_old q (by decide)); ⟨B, e, h1, fun q2 => h2 (by rw [getD_set_ne false (by decide)] at q2; exact q2)⟩), fun q => (let ⟨h1, h2, v, er, B, e1, e2, h3, h4⟩ := f11 (done_old q (by decide)); ⟨getD_set_true h1, getD_set_true h2, v, er, B, e1, e2, h3, h4⟩), fun q => (let h := f12 (done_old q (by decide)); ⟨getD_set_true h.1, h.2⟩)⟩
    exact fun _ => ⟨getD_set_true D6.down, v, er, rfl, rfl⟩
  · rintro done a w hsz hnot hdep ⟨t5, t6, t7, t8, t9, t10, t11, t12, t13, t14, t15, t16, rfl, gw, f0, f1, f2, f3, f4, f5, f6, f7, f8, f9, f10, f11, f12⟩ K hK
    have hn : ¬ done.getD 9 false = true := by rw [getD_both hnot]; decide
    have d7 := hdep 7 (by kernel_rfl)
    obtain ⟨D6, rfl⟩ := f7 d7
    have D6 := PLift.up D6
    obtain ⟨v, er, rfl, hs⟩ := f6 D6.down
    have HK := PLift.up hK
    clear hK 
    simp only [stp1A]
    go_simp
    have gg : Gr w w := Gr.refl _
    refine HK.down _ _ ⟨_, _, _, _, _, _, _, _, _, _, _, _, rfl, gw, kp f0, kp f1, kp f2, kp f3, kp f4, kp f5, fun _ => ⟨v, er, rfl, hs⟩, fun _ => ⟨getD_set_true D6.down, rfl⟩, fun q => (let h := f8 (done_old q (by decide)); ⟨getD_set_true h.1, h.2⟩), ?_, fun q => (let ⟨B, e, h1, h2⟩ := f10 (done_old q (by decide)); ⟨B, e, h1, fun q2 => h2 (by rw [getD_set_ne false (by decide)] at q2; exact q2)⟩), fun q => (let ⟨h1, h2, v, er, B, e1, e2, h3, h4⟩ := f11 (done_old q (by decide)); ⟨getD_set_true h1, getD_set_true h2, v, er, B, e1, e2, h3, h4⟩), fun q => (let h := f12 (done_old q (by decide)); ⟨getD_set_true h.1, h.2⟩)⟩
    exact fun _ => ⟨getD_set_true D6.down, v, er, rfl, rfl⟩
  · rintro done a w hsz hnot hdep ⟨t5, t6, t7, t8, t9, t10, t11, t12, t13, t14, t15, t16, rfl, gw, f0, f1, f2, f3, f4, f5, f6, f7, f8, f9, f10, f11, f12⟩ K hK
    have hn : ¬ done.getD 10 false = true := by rw [getD_both hnot]; decide
    have GS := PLift.up gw.1.size
    have GW := PLift.up gw
    have HK := PLift.up hK
    clear hK 
    simp only [stp1A]
    go_simp
    have gg : Gr w (w.alloc (.cells #[.slice none 0 0] 25)) := (Gr.refl _).alloc _
    refine HK.down _ _ ⟨_, _, _, _, _, _, _, _, _, _, _, _, rfl, ⟨GW.down.1.gr gg, GW.down.2.gr gg⟩, kp f0, kp f1, kp f2, kp f3, kp f4, kp f5, fun q => (let ⟨v, er, e, hs⟩ := f6 (done_old q (by decide)); ⟨v, er, e, hs.gr gg⟩), fun q => (let h := f7 (done_old q (by decide)); ⟨getD_set_true h.1, h.2⟩), fun q => (let h := f8 (done_old q (by decide)); ⟨getD_set_true h.1, h.2⟩), fun q => (let h := f9 (done_old q (by decide)); ⟨getD_set_true h.1, h.2⟩), ?_, fun q => absurd (f11 (done_old q (by decide))).2.1 hn, fun q => (let h := f12 (done_old q (by decide)); ⟨getD_set_true h.1, h.2⟩)⟩
    exact fun _ => ⟨_, rfl, GS.down, fun _ => Row.new w _ _⟩
  · rintro done a w hsz hnot hdep ⟨t5, t6, t7, t8, t9, t10, t11, t12, t13, t14, t15, t16, rfl, gw, f0, f1, f2, f3, f4, f5, f6, f7, f8, f9, f10, f11, f12⟩ K hK
    have hn : ¬ done.getD 11 false = true := by rw [getD_both hnot]; decide
    have d10 := hdep 10 (by kernel_rfl)
    have d8 := hdep 8 (by kernel_rfl)
    obtain ⟨D6, v, er, e14, rfl⟩ := f8 d8
    have D6 := PLift.up D6
    have D10 := PLift.up d10
    subst e14
    obtain ⟨v2, er2, e2, hs⟩ := f6 D6.down
    injection e2 with e2
    obtain ⟨rfl, he⟩ : v = v2 ∧ (er : Int) = er2 := by simpa using e2
    obtain rfl : er = er2 := by omega
    obtain ⟨ya, ym, yc, rfl⟩ := hs.one
    obtain ⟨B, rfl, hB, hr⟩ := f10 d10
    have n11 := getD_both hnot
    have rb := hr n11
    have RB := PLift.up rb
    have z0 := rb.cell 0 (by simp)
    have zf := rb.free 0
    have zh := has_of_cell z0
    have HBB := PLift.up hB
    have GW := PLift.up gw
    have HK := PLift.up hK
    clear hK 
    simp only [stp1A]
    go_simp
    refine HK.down _ _ ⟨_, _, _, _, _, _, _, _, _, _, _, _, rfl, ⟨GW.down.1.setc HBB.down, GW.down.2.oth (by have := HNB.down.2.2.1; have := HNB.down.2.2.2; have := HBB.down; have := HNB.down.1; omega)⟩, kp f0, kp f1, kp f2, kp f3, kp f4, kp f5, fun _ => ⟨_, er, rfl, hs.box RB.down⟩, fun q => (let h := f7 (done_old q (by decide)); ⟨getD_set_true h.1, h.2⟩), fun _ => ⟨getD_set_true D6.down, _, er, rfl, rfl⟩, fun q => (let h := f9 (done_old q (by decide)); ⟨getD_set_true h.1, h.2⟩), fun _ => ⟨B, rfl, HBB.down, fun q2 => absurd q2 (by rw [getD_set_same (by rw [hsz]; decide)]; decide)⟩, ?_, fun q => (let h := f12 (done_old q (by decide)); ⟨getD_set_true h.1, h.2⟩)⟩
    exact fun _ => ⟨getD_set_true D6.down, getD_set_true D10.down, _, er, B, rfl, rfl, HBB.down, RB.down.set 0 _⟩
  · rintro done a w hsz hnot hdep ⟨t5, t6, t7, t8, t9, t10, t11, t12, t13, t14, t15, t16, rfl, gw, f0, f1, f2, f3, f4, f5, f6, f7, f8, f9, f10, f11, f12⟩ K hK
    have hn : ¬ done.getD 12 false = true := by rw [getD_both hnot]; decide
    have d9 := hdep 9 (by kernel_rfl)
    obtain ⟨D6, v, er, rfl, rfl⟩ := f9 d9
    have D6 := PLift.up D6
    have HK := PLift.up hK
    clear hK 
    simp only [stp1A]
    go_simp
    have gg : Gr w w := Gr.refl _
    refine HK.down _ _ ⟨_, _, _, _, _, _, _, _, _, _, _, _, rfl, gw, kp f0, kp f1, kp f2, kp f3, kp f4, kp f5, kp f6, fun q => (let h := f7 (done_old q (by decide)); ⟨getD_set_true h.1, h.2⟩), fun q => (let h := f8 (done_old q (by decide)); ⟨getD_set_true h.1, h.2⟩), fun _ => ⟨getD_set_true D6.down, v, er, rfl, rfl⟩, fun q => (let ⟨B, e, h1, h2⟩ := f10 (done_old q (by decide)); ⟨B, e, h1, fun q2 => h2 (by rw [getD_set_ne false (by decide)] at q2; exact q2)⟩), fun q => (let ⟨h1, h2, v, er, B, e1, e2, h3, h4⟩ := f11 (done_old q (by decide)); ⟨getD_set_true h1, getD_set_true h2, v, er, B, e1, e2, h3, h4⟩), ?_⟩
    exact fun _ => ⟨getD_set_true D6.down, v, er, rfl, rfl⟩
  · rintro done a w hall ⟨t5, t6, t7, t8, t9, t10, t11, t12, t13, t14, t15, t16, rfl, gw, f0, f1, f2, f3, f4, f5, f6, f7, f8, f9, f10, f11, f12⟩
    refine h' _ _ _ _ _ _ _ _ _ _ _ _ w ?_ gw.1 gw.2
    obtain ⟨v, er, e1, hs⟩ := f6 (hall 6 (by decide))
    obtain ⟨_, _, v2, er2, B, e2, e3, h3, h4⟩ := f11 (hall 11 (by decide))
    obtain ⟨_, v3, er3, e4, e5⟩ := f12 (hall 12 (by decide))
    subst e1
    obtain ⟨rfl, he⟩ : v = v2 ∧ (er : Int) = er2 := by simpa using e2
    obtain rfl : er = er2 := by omega
    obtain ⟨_, he⟩ : v = v3 ∧ (er : Int) = er3 := by simpa using e4
    obtain rfl : er = er3 := by omega
    exact ⟨v, er, B, e5, e3, h3, h4, hs⟩
def GivesSt (base n b len : Nat) (w : World) (e : Ending) (w' : World) : Prop := ∃ (v : Value) (ms : List NM), e = .returned (.agg #[v]) ∧ TrAt base w' v ms ∧ VB (ms.map NM.n) ∧ (ms.length = n ∨ ms.length = n + 1) ∧ Mv b len w w'
theorem step_any (base : Nat) (ms : List NM) (a : Option Addr) (n cap b len : Nat) (w : World) (ht : Tp w b len) (h : TrAt base w (.slice a n cap) ms) (hv : VB (ms.map NM.n)) (hbs : b < base ∧ base ≤ w.heap.size) :
    Calls Tryz.prog 30 #[.pointer (some ⟨b, 0, none⟩), .agg #[.slice a n cap]] w (GivesSt base n b len w) := by
  have nl := h.sl.1
  have H := Lib.hid ht
  have HT := Lib.hid h
  have HV := Lib.hid hv
  have HBS := Lib.hid hbs
  have NL := Lib.hid nl
  have LL : Hid ((ms.map NM.n).length = n) := Lib.hid (by rw [List.length_map]; exact nl.symm)
  have hb := ht.has
  clear h hv ht nl hbs
  obtain ⟨P0, hP0⟩ : ∃ P : Ending → World → Prop, P = GivesSt base n b len w := ⟨_, rfl⟩
  rw [← hP0]
  have HP0 := Lib.hid hP0
  clear hP0
  go_enter Tryz.func30, Tryz.ntmps30
  go_upto_region 1 with (fail)
  have R1 := Lib.hid ((Row.new w #[.slice a n cap] 25).alloc (.cells #[.slice none 0 0] 25))
  have R2 : Hid (Row ((w.alloc (.cells #[.slice a n cap] 25)).alloc (.cells #[.slice none 0 0] 25)) (w.heap.size + 1) 25 [.slice none 0 0]) := Lib.hid (by
    have q := Row.new (w.alloc (.cells #[.slice a n cap] 25)) #[.slice none 0 0] 25
    have e : (w.alloc (.cells #[.slice a n cap] 25)).heap.size = w.heap.size + 1 := by simp
    rw [e] at q; exact q)
  obtain ⟨W, hW⟩ : ∃ W : World, Hid (W = (w.alloc (.cells #[.slice a n cap] 25)).alloc (.cells #[.slice none 0 0] 25)) := ⟨_, Lib.hid rfl⟩
  have GW : Hid (Gr w W) := Lib.hid (by rw [hW.out]; exact ((Gr.refl _).alloc _).alloc _)
  rw [← hW.out] at R1 R2 ⊢
  obtain ⟨PB, hPB⟩ : ∃ N : Nat, Hid (w.heap.size = N) := ⟨_, Lib.hid rfl⟩
  have HPB := Lib.hid hPB.out
  rw [hPB.out] at R1 R2 ⊢
  clear hW hPB
  obtain ⟨P2, hP2⟩ : ∃ N : Nat, Hid (PB + 1 = N) := ⟨_, Lib.hid rfl⟩
  have HP2 := Lib.hid hP2.out
  rw [hP2.out] at R2 ⊢
  clear hP2
  have T0 := Lib.hid (H.out.gr GW.out)
  have M0 := Lib.hid (Mv.of_gr H.out GW.out)
  have PBb : PB ≠ b := by have := HPB.out; omega
  have P2b : P2 ≠ b := by have := HPB.out; have := HP2.out; omega
  refine wp_code_eq (c := Code.region 1 (regIn 1 Tryz.f30) true) (by kernel_rfl) (stp1 (wr := W) (b := b) (len := len) (PB := PB) (P2 := P2) (n := n) (cap := cap) (base := base) (ad := a) (ms := ms) T0.out R1.out ⟨PBb, HBS.out.1, T0.out.has, Nat.le_trans HBS.out.2 GW.out.size, R1.out.has⟩ LL.out HV.out (HT.out.gr GW.out) ?_)
  intro t5 t6 t7 t8 t9 t10 t11 t12 t13 t14 t15 t16 wx ⟨v, er, B, e6, e5, hB, hr, hs⟩ hm hpb
  subst e6
  subst e5
  have MV := Lib.hid (M0.out.trans H.out.has hm)
  have S1 := Lib.hid hpb
  have S2 := Lib.hid (hm.row R2.out P2b)
  have TX := Lib.hid (HT.out.mv HBS.out.1 MV.out)
  have BR := Lib.hid hr
  clear hm hpb hr R1 R2
  unfold stp1A
  rcases hs with ⟨h1, h2, rfl⟩ | ⟨h1, m2, h2, h3, h4⟩
  · have eb : ((er : Int) == 0) = false := by rw [beq_eq_false_iff_ne]; omega
    have eb2 : ((er : Int) != 0) = true := by rw [bne_iff_ne]; omega
    have x0 := S1.out.cell 0 (by simp)
    have hx := has_of_cell x0
    have z0 := S2.out.cell 0 (by simp)
    have zf := S2.out.free 0
    have hz := has_of_cell z0
    clear h1 h2
    go_wp2_with fail
    have RF := Lib.hid (S2.out.set 0 (.slice a n cap))
    have TF := Lib.hid (TX.out.box (o := 0) (u := .slice a n cap) S2.out.ty (by decide) (TX.out.ne_ty S2.out.ty (by decide)))
    have GF : Hid (Mv b len w (wx.setCell ⟨P2, 0, none⟩ (.slice a n cap))) := Lib.hid (MV.out.setc (by have := HPB.out; have := HP2.out; omega))
    obtain ⟨W3, hW3⟩ : ∃ W : World, Hid (W = wx.setCell ⟨P2, 0, none⟩ (.slice a n cap)) := ⟨_, Lib.hid rfl⟩
    rw [← hW3.out] at RF TF GF ⊢
    have e0 : W3.cell? ⟨P2, 0, none⟩ = some (.slice a n cap) := RF.out.cell 0 (by simp)
    clear hW3
    refine bodyPost_ret (v := .agg #[.slice a n cap]) (by simp [results, Tryz.results30, e0, go_sem]) rfl ?_
    rw [HP0.out]
    exact ⟨_, ms, rfl, TF.out, HV.out, .inl NL.out.symm, GF.out⟩
  · obtain ⟨ya, yc, hv⟩ := owns_slice h2.own
    subst hv
    subst h1
    have T2 := Lib.hid h2
    have V2 := Lib.hid h3
    have x0 := BR.out.cell 0 (by simp)
    have hx := has_of_cell x0
    have z0 := S2.out.cell 0 (by simp)
    have zf := S2.out.free 0
    have hz := has_of_cell z0
    have L2 := Lib.hid h4
    clear h2 h3 h4
    go_wp2_with fail
    have RF := Lib.hid (S2.out.set 0 (.slice ya m2.length yc))
    have TF := Lib.hid (T2.out.box (o := 0) (u := .slice ya m2.length yc) S2.out.ty (by decide) (T2.out.ne_ty S2.out.ty (by decide)))
    have GF : Hid (Mv b len w (wx.setCell ⟨P2, 0, none⟩ (.slice ya m2.length yc))) := Lib.hid (MV.out.setc (by have := HPB.out; have := HP2.out; omega))
    obtain ⟨W3, hW3⟩ : ∃ W : World, Hid (W = wx.setCell ⟨P2, 0, none⟩ (.slice ya m2.length yc)) := ⟨_, Lib.hid rfl⟩
    rw [← hW3.out] at RF TF GF ⊢
    have e0 : W3.cell? ⟨P2, 0, none⟩ = some (.slice ya m2.length yc) := RF.out.cell 0 (by simp)
    clear hW3
    refine bodyPost_ret (v := .agg #[.slice ya m2.length yc]) (by simp [results, Tryz.results30, e0, go_sem]) rfl ?_
    rw [HP0.out]
    exact ⟨_, m2, rfl, TF.out, V2.out, .inr L2.out, GF.out⟩
end Go.Proofs.YtgembejpiecfcaaGreatDoor

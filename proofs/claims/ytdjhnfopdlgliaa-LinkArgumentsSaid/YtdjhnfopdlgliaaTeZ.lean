/- The walk of LinkArguments. -/
import Derived.Test.YtdjhnfopdlgliaaTeZa
import Derived.WalkMore
set_option linter.unusedVariables false
set_option linter.unusedSimpArgs false
namespace Go.Proofs.Ytdjhnfopdlgliaa
open Go.RowKit
open Classical

def RU (w : World) (b o : Nat) (x : Nat) : Prop := w.cell? ⟨b, o, none⟩ = some (.int .u16 x) ∧ x < 65536
theorem RU.mono : Mono RU := fun _ _ _ _ _ hg h => ⟨cell_gr hg h.1, h.2⟩
theorem cellsS_app (a b : List Nat) : cellsS (a ++ b) = cellsS a ++ cellsS b := by simp [cellsS]
theorem gr_size {w w2 : World} {B1 B2 : Nat} (h : Gr w w2) (h1 : w2.heap.size = B1) (h2 : B1 + 1 = B2) : w.heap.size ≤ B2 := by
  obtain ⟨O, d, rfl⟩ := h
  have : (xt w O d).heap.size = w.heap.size + O.size := by simp [xt]
  omega
theorem laT_at (n : Nat) (V : St) (wr : World) (B1 B2 : Nat) (hV : V.length ≤ 1000) (hn : n ≤ 8) (hne : B2 ≠ B1)
    (h1 : Row wr B1 29 [.string (bs sK), .string (bs (cellsS [n])), .string (bs phS), .string (bs (cellsS [77]))])
    (h2 : Row wr B2 26 [.int .i64 (-1), .string (bs []), .slice none 0 0, .int .i64 0, .string (bs [97]), .slice none 0 0, .int .i64 0, .string (bs [98]), .slice (some ⟨B1, 0, none⟩) 2 2]) :
    SlOf 3 RNod ((wr.setCell ⟨B2, 5, none⟩ (.slice (some ⟨wr.heap.size, 0, none⟩) 1 1)).alloc (.cells #[.string (bs sC), .string (bs V)] 29)) (some ⟨B2, 0, none⟩) (laT n V) := by
  have R0 := Row.new (wr.setCell ⟨B2, 5, none⟩ (.slice (some ⟨wr.heap.size, 0, none⟩) 1 1)) #[.string (bs sC), .string (bs V)] 29
  rw [size_set] at R0
  have R1 := (h1.oth (o := 5) (v := .slice (some ⟨wr.heap.size, 0, none⟩) 1 1) hne).alloc (.cells #[.string (bs sC), .string (bs V)] 29)
  have R2 := (h2.set 5 (.slice (some ⟨wr.heap.size, 0, none⟩) 1 1)).alloc (.cells #[.string (bs sC), .string (bs V)] 29)
  refine nods_of_row (ts := [⟨⟨-1, [], []⟩, none, 0⟩, ⟨⟨0, [97], [⟨sC, V⟩]⟩, some ⟨wr.heap.size, 0, none⟩, 1⟩, ⟨⟨0, [98], [⟨sK, cellsS [n]⟩, ⟨phS, cellsS [77]⟩]⟩, some ⟨B1, 0, none⟩, 2⟩]) R2 ?_
  intro t ht
  simp only [List.mem_cons, List.not_mem_nil, or_false] at ht
  rcases ht with rfl | rfl | rfl
  · exact ⟨by simp [Wide], by simp, by simp, by simp [Fit], SlOf.nil _ _ _ _⟩
  · exact ⟨by simp [Wide], by simp, by simp, by simp [Fit], prps_of_row (ps := [⟨sC, V⟩]) R0 (by simp only [List.mem_singleton]; rintro p rfl; exact ⟨by simp [sC], hV⟩)⟩
  · exact ⟨by simp [Wide], by simp, by simp, by simp [Fit], prps_of_row (ps := [⟨sK, cellsS [n]⟩, ⟨phS, cellsS [77]⟩]) R1 (by simp only [List.mem_cons, List.not_mem_nil, or_false]; rintro p (rfl | rfl) <;> exact ⟨by simp [sK, phS], by rw [cellsS_length]; simp⟩)⟩
theorem laT_at2 (n : Nat) (V : St) (wx : World) (B B1 B2 : Nat) (hV : V.length ≤ 1000) (hn : n ≤ 8)
    (h0 : Row wx B 29 [.string (bs sC), .string (bs V)])
    (h1 : Row wx B1 29 [.string (bs sK), .string (bs (cellsS [n])), .string (bs phS), .string (bs (cellsS [77]))])
    (h2 : Row wx B2 26 [.int .i64 (-1), .string (bs []), .slice none 0 0, .int .i64 0, .string (bs [97]), .slice (some ⟨B, 0, none⟩) 1 1, .int .i64 0, .string (bs [98]), .slice (some ⟨B1, 0, none⟩) 2 2]) :
    SlOf 3 RNod wx (some ⟨B2, 0, none⟩) (laT n V) := by
  refine nods_of_row (ts := [⟨⟨-1, [], []⟩, none, 0⟩, ⟨⟨0, [97], [⟨sC, V⟩]⟩, some ⟨B, 0, none⟩, 1⟩, ⟨⟨0, [98], [⟨sK, cellsS [n]⟩, ⟨phS, cellsS [77]⟩]⟩, some ⟨B1, 0, none⟩, 2⟩]) h2 ?_
  intro t ht
  simp only [List.mem_cons, List.not_mem_nil, or_false] at ht
  rcases ht with rfl | rfl | rfl
  · exact ⟨by simp [Wide], by simp, by simp, by simp [Fit], SlOf.nil _ _ _ _⟩
  · exact ⟨by simp [Wide], by simp, by simp, by simp [Fit], prps_of_row (ps := [⟨sC, V⟩]) h0 (by simp only [List.mem_singleton]; rintro p rfl; exact ⟨by simp [sC], hV⟩)⟩
  · exact ⟨by simp [Wide], by simp, by simp, by simp [Fit], prps_of_row (ps := [⟨sK, cellsS [n]⟩, ⟨phS, cellsS [77]⟩]) h1 (by simp only [List.mem_cons, List.not_mem_nil, or_false]; rintro p (rfl | rfl) <;> exact ⟨by simp [sK, phS], by rw [cellsS_length]; simp⟩)⟩
theorem wp_world {P : Program} {c : Code} {fr : Act} {w w' : World} {Q : Exit → Act → World → Prop} (h : w = w') (k : Code.wp P c Q fr w') : Code.wp P c Q fr w := by
  rw [h]; exact k
set_option maxRecDepth 100000 in
set_option maxHeartbeats 8000000 in
theorem linkArgs_any (l : List Nat) (ao : Option Addr) (cap : Nat) (q : Nat) (hq : q < 256) (w : World) (hl : SlOf 1 RU w ao l) (hf : l.length ≤ 9223372036854775807) :
    Calls Try.prog 3 #[.slice ao l.length cap, .int .u8 q] w (Grows w (.bool true)) := by
  have L := Lib.hid hl
  have hv : ∀ m ∈ l, m < 65536 := fun m hm => by
    obtain ⟨i, hi, rfl⟩ := List.getElem_of_mem hm
    obtain ⟨b, o, _, _, h⟩ := hl.one i hi
    exact h
  have HV := Lib.hid hv
  clear hl hv
  by_cases h40 : 40 < l.length
  · go_enter Try.func3, Try.ntmps3
    go_wp2_with fail
    refine (awake12_any w).mono ?_
    rintro e w1 ⟨rfl, hg⟩
    go_wp2_with fail
    go_ret
    exact ⟨rfl, hg⟩
  · obtain ⟨n, hn⟩ : ∃ n : Nat, n = q % 9 := ⟨_, rfl⟩
    have hn8 : n ≤ 8 := by omega
    have en : (q : Int) % 9 = (n : Int) := by omega
    have HN := Lib.hid hn
    clear hn
    go_enter Try.func3, Try.ntmps3
    go_wp2_with fail
    refine (cellsNew [n] w #[.int .i64 n] rfl (by simp; omega) (by simp) (by simp) 1 _ rfl rfl).mono ?_
    rintro e w1 ⟨rfl, hg1⟩
    have G1 := Lib.hid hg1
    clear hg1
    go_wp2_with fail
    refine (cellsNew [77] w1 #[.int .i64 77] rfl (by simp) (by simp) (by simp) 1 _ rfl rfl).mono ?_
    rintro e w2 ⟨rfl, hg2⟩
    have G2 := Lib.hid (G1.out.trans hg2)
    clear hg2
    go_wp2_with fail
    have R1 := Lib.hid (Row.new w2 #[.string (bs sK), .string (bs (cellsS [n])), .string (bs phS), .string (bs (cellsS [77]))] 29)
    obtain ⟨W1, hW1⟩ : ∃ W : World, Hid (W = w2.alloc (.cells #[.string (bs sK), .string (bs (cellsS [n])), .string (bs phS), .string (bs (cellsS [77]))] 29)) := ⟨_, Lib.hid rfl⟩
    obtain ⟨B1, hB1⟩ : ∃ N : Nat, Hid (w2.heap.size = N) := ⟨_, Lib.hid rfl⟩
    have z1 : Hid (W1.heap.size = B1 + 1) := Lib.hid (by rw [hW1.out, ← hB1.out]; simp)
    have R2 := Lib.hid (Row.new W1 #[.int .i64 (-1), .string (bs []), .slice none 0 0, .int .i64 0, .string (bs [97]), .slice none 0 0, .int .i64 0, .string (bs [98]), .slice (some ⟨B1, 0, none⟩) 2 2] 26)
    obtain ⟨W2, hW2⟩ : ∃ W : World, Hid (W = W1.alloc (.cells #[.int .i64 (-1), .string (bs []), .slice none 0 0, .int .i64 0, .string (bs [97]), .slice none 0 0, .int .i64 0, .string (bs [98]), .slice (some ⟨B1, 0, none⟩) 2 2] 26)) := ⟨_, Lib.hid rfl⟩
    have z2 : Hid (W2.heap.size = B1 + 1 + 1) := Lib.hid (by rw [hW2.out]; simp [z1.out])
    have R3 := Lib.hid (Row.new W2 #[.slice (some ⟨B1 + 1, 0, none⟩) 3 3] 32)
    obtain ⟨W3, hW3⟩ : ∃ W : World, Hid (W = W2.alloc (.cells #[.slice (some ⟨B1 + 1, 0, none⟩) 3 3] 32)) := ⟨_, Lib.hid rfl⟩
    have g1 : Gr w2 W1 := by rw [hW1.out]; exact (Gr.refl _).alloc _
    have g2 : Gr W1 W2 := by rw [hW2.out]; exact (Gr.refl _).alloc _
    have g3 : Gr W2 W3 := by rw [hW3.out]; exact (Gr.refl _).alloc _
    rw [← hW1.out, hB1.out] at R1
    rw [← hW2.out, z1.out] at R2
    rw [← hW3.out, z2.out] at R3
    have Q1 := Lib.hid (R1.out.gr (g2.trans g3))
    have Q2 := Lib.hid (R2.out.gr g3)
    have G3 := Lib.hid (G2.out.trans (g1.trans (g2.trans g3)))
    rw [hB1.out]
    have HW3 : Hid (((w2.alloc (.cells #[.string (bs sK), .string (bs (cellsS [n])), .string (bs phS), .string (bs (cellsS [77]))] 29)).alloc (.cells #[.int .i64 (-1), .string (bs []), .slice none 0 0, .int .i64 0, .string (bs [97]), .slice none 0 0, .int .i64 0, .string (bs [98]), .slice (some ⟨B1, 0, none⟩) 2 2] 26)).alloc (.cells #[.slice (some ⟨B1 + 1, 0, none⟩) 3 3] 32) = W3) := Lib.hid (by rw [hW3.out, hW2.out, hW1.out])
    clear g1 g2 g3 hW1 hW2 hW3 R1 R2 G1 z1 z2
    refine wp_world HW3.out ?_
    clear HW3
    obtain ⟨B2, hB2⟩ : ∃ N : Nat, Hid (B1 + 1 = N) := ⟨_, Lib.hid rfl⟩
    rw [hB2.out] at Q2 R3 ⊢
    obtain ⟨B3, hB3⟩ : ∃ N : Nat, Hid (B2 + 1 = N) := ⟨_, Lib.hid rfl⟩
    rw [hB3.out] at R3 ⊢
    rcases Nat.eq_zero_or_pos n with n0 | n0
    case' inl =>
      have en0 : ((n : Int) == 0) = true := by simp [n0]
      obtain ⟨wh, hwh⟩ : ∃ wh : Nat, wh = min l.length 5 := ⟨_, rfl⟩
      have ewh : min (l.length : Int) (min 5 6) = (wh : Int) := by omega
      have hwn : wh * n ≤ l.length := by rw [n0]; omega
      have hw6 : wh ≤ 6 := by omega
      have hw9 : wh * n ≤ 40 := by rw [n0]; omega
      have NB := Lib.hid n0
    case' inr =>
      have en0 : ((n : Int) == 0) = false := by simp; omega
      obtain ⟨wh, hwh⟩ : ∃ wh : Nat, wh = min (l.length / n) 6 := ⟨_, rfl⟩
      have em : max (1 : Int) (n : Int) = (n : Int) := by omega
      have ed : (l.length : Int) / (n : Int) = ((l.length / n : Nat) : Int) := by simp
      have hd : l.length / n ≤ l.length := Nat.div_le_self ..
      obtain ⟨dv, hdv⟩ : ∃ dv : Nat, dv = l.length / n := ⟨_, rfl⟩
      rw [← hdv] at ed hwh hd
      have ewh : min (dv : Int) 6 = (wh : Int) := by omega
      have hwn : wh * n ≤ l.length := Nat.le_trans (Nat.mul_le_mul_right n (show wh ≤ dv by omega)) (by rw [hdv]; exact Nat.div_mul_le_self _ _)
      have hw6 : wh ≤ 6 := by omega
      have hw9 : wh * n ≤ 40 := Nat.le_trans hwn (by omega)
      have NB := Lib.hid n0
      clear hdv
    all_goals
      have HWN := Lib.hid hwn
      have HW9 := Lib.hid hw9
      clear hwh hwn hw9 n0
      go_wp2
      go_quiet (fail)
      go_wp2
      go_loopw [7, 9] (fun s i wr => ∃ k : Nat, k ≤ wh ∧ i = .int .i64 k ∧ s = .string (bs (cellsS (flatR n k l))) ∧ Gr W3 wr) (fun _ i _ => wh - (intOf i).toNat)
      case atStart => exact ⟨0, Nat.zero_le _, rfl, rfl, by repeat (first | with_reducible exact Gr.refl _ | with_reducible refine Gr.drewN _ ?_)⟩
      case round =>
        obtain ⟨k, hk, rfl, rfl, hgk⟩ := hrel
        have GK := Lib.hid hgk
        clear hgk
        by_cases hlt : k < wh
        · have hkn : k * n + n ≤ l.length := by
            have := Nat.mul_le_mul_right n (show k + 1 ≤ wh by omega)
            rw [Nat.add_mul, Nat.one_mul] at this
            exact Nat.le_trans this HWN.out
          obtain ⟨P, hP⟩ : ∃ P : Nat, P = k * n := ⟨_, rfl⟩
          rw [← hP] at hkn
          have em : (k : Int) * (n : Int) = (P : Int) := by rw [hP]; simp
          have HP := Lib.hid hP
          have hp40 : P + n ≤ 40 := by omega
          have hfl : (flatR n k l).length = P + k := by rw [flatR_len n k l (by rw [← hP]; omega), Nat.mul_add, Nat.mul_one, ← hP]
          have hcat : ¬ (9223372036854775807 < (cellsS (flatR n k l)).length + (cellsS [77]).length) := by
            rw [cellsS_length, cellsS_length, hfl]; simp; omega
          have HFL := Lib.hid hfl
          clear hP hfl
          go_wp2_with fail
          refine (cellsNew [77] wr #[.int .i64 77] rfl (by simp) (by simp) (by simp) 1 _ rfl rfl).mono ?_
          rintro e wa ⟨rfl, hga⟩
          have GA := Lib.hid (GK.out.trans hga)
          clear hga
          go_wp2_with fail
          go_loopw [7, 10] (fun s j wr => ∃ m : Nat, m ≤ n ∧ j = .int .i64 m ∧ s = .string (bs (cellsS (flatR n k l ++ 77 :: (l.drop P).take m))) ∧ Gr W3 wr) (fun _ j _ => n - (intOf j).toNat)
          case atStart => exact ⟨0, Nat.zero_le _, rfl, by simp [cellsS], by repeat (first | with_reducible exact GA.out | with_reducible refine Gr.drewN _ ?_)⟩
          case round =>
            obtain ⟨m, hm, rfl, rfl, hgm⟩ := hrel
            have GM := Lib.hid hgm
            clear hgm
            by_cases hmn : m < n
            · obtain ⟨bx, ox, rfl, ⟨c1, c2⟩⟩ := L.out.one (P + m) (by omega)
              have c3 := cell_gr (G3.out.trans GM.out) c1
              obtain ⟨x, hx⟩ : ∃ x : Nat, Hid (l[P + m]'(by omega) = x) := ⟨_, Lib.hid rfl⟩
              rw [hx.out] at c2 c3
              clear c1
              have hcat2 : ¬ (9223372036854775807 < (cellsS (flatR n k l ++ 77 :: (l.drop P).take m)).length + (cellsS [x]).length) := by
                rw [cellsS_length, cellsS_length, List.length_append, HFL.out, List.length_cons, List.length_take, List.length_drop]; simp; omega
              go_wp2_with fail
              refine (cellsNew [x] wr #[.int .i64 x] rfl (by simp; omega) (by simp) (by simp) 1 _ rfl rfl).mono ?_
              rintro e wb ⟨rfl, hgb⟩
              have GB := Lib.hid (GM.out.trans hgb)
              clear hgb
              go_wp2_with fail
              have hs : cellsS (flatR n k l ++ 77 :: (l.drop P).take m) ++ cellsS [x] = cellsS (flatR n k l ++ 77 :: (l.drop P).take (m + 1)) := by
                rw [List.take_succ_eq_append_getElem (by rw [List.length_drop]; omega), List.getElem_drop, hx.out, ← cellsS_app]
                simp
              exact ⟨⟨m + 1, by omega, by go_num, by rw [hs], GB.out⟩, by simp [intOf]; omega⟩
            · go_wp2
              go_roundw
              case rel =>
                refine ⟨k + 1, by omega, by go_num, ?_, GM.out⟩
                rw [flatR_snoc, ← HP.out, show m = n by omega]
              case measure => simp [intOf]; omega
        · obtain rfl : k = wh := by omega
          have b3 := (R3.out.gr GK.out).cell 0 (by simp)
          have b5 := (Q2.out.gr GK.out).cell 5 (by simp)
          simp only [List.getElem_cons_zero, List.getElem_cons_succ] at b3 b5
          obtain ⟨V, hV⟩ : ∃ V : St, Hid (cellsS (flatR n k l) = V) := ⟨_, Lib.hid rfl⟩
          rw [hV.out]
          have hh2 := has_of_cell b5
          have hh3 := has_of_cell b3
          have hn32 : B2 ≠ B3 := by have := hB3.out; omega
          have b6 : (wr.setCell ⟨B2, 5, none⟩ (.slice (some ⟨wr.heap.size, 0, none⟩) 1 1)).cell? ⟨B3, 0, none⟩ = some (.slice (some ⟨B2, 0, none⟩) 3 3) := ((R3.out.gr GK.out).oth hn32).cell 0 (by simp)
          have HN32 := Lib.hid hn32
          have hfr : wr.frozen? ⟨B2, 5, none⟩ = false := (Q2.out.gr GK.out).free 5
          have hgB : w.heap.size ≤ B2 := gr_size G2.out hB1.out hB2.out
          have SLT := Lib.hid (laT_at n V wr B1 B2 (by rw [← hV.out, cellsS_length, flatR_len n k l HWN.out, Nat.mul_add]; have := HW9.out; omega) hn8 (by have := hB2.out; omega) (Q1.out.gr GK.out) (Q2.out.gr GK.out))
          clear hn32
          obtain ⟨Wt, hWt⟩ : ∃ W : World, Hid (W = ((wr.setCell ⟨B2, 5, none⟩ (.slice (some ⟨wr.heap.size, 0, none⟩) 1 1)).alloc (.cells #[.string (bs sC), .string (bs V)] 29))) := ⟨_, Lib.hid rfl⟩
          have hlV : V.length ≤ 256 := by
            rw [← hV.out, cellsS_length, flatR_len n k l HWN.out, Nat.mul_add]; have := HW9.out; omega
          have hof : ofT (laT n V) 1 sC sK = .ok (linksR n k l 0) := by rw [← hV.out]; exact laT_of n k l hn8 HWN.out HV.out
          rw [← hWt.out] at SLT
          have hC := Of_any (laT n V) (some ⟨B2, 0, none⟩) 3 1 sC sK Wt SLT.out (laT_chk n V hlV) (by simp [laT])
          rw [hof] at hC
          have HC : Hid (Calls Try.prog 7 #[.agg #[.slice (some ⟨B2, 0, none⟩) 3 3], .int .i64 1, .string (bs sC), .string (bs sK)] ((wr.setCell ⟨B2, 5, none⟩ (.slice (some ⟨wr.heap.size, 0, none⟩) 1 1)).alloc (.cells #[.string (bs sC), .string (bs V)] 29)) (GivesLks Wt (.ok (linksR n k l 0)))) := Lib.hid (by rw [← hWt.out]; exact hC)
          have GT : Hid (Gr w Wt) := Lib.hid (by rw [hWt.out]; exact (((G3.out.trans GK.out).setc hgB).alloc _))
          have QT := Lib.hid (((R3.out.gr GK.out).oth (o := 5) (v := .slice (some ⟨wr.heap.size, 0, none⟩) 1 1) HN32.out).alloc (.cells #[.string (bs sC), .string (bs V)] 29))
          have QN := Lib.hid (((Q2.out.gr GK.out).set 5 (.slice (some ⟨wr.heap.size, 0, none⟩) 1 1)).alloc (.cells #[.string (bs sC), .string (bs V)] 29))
          have QP := Lib.hid (((Q1.out.gr GK.out).oth (o := 5) (v := .slice (some ⟨wr.heap.size, 0, none⟩) 1 1) (show B2 ≠ B1 by have := hB2.out; omega)).alloc (.cells #[.string (bs sC), .string (bs V)] 29))
          rw [← hWt.out] at QT QN QP
          have HLV := Lib.hid hlV
          clear hC hof hlV
          go_wp2_with fail
          refine HC.out.mono ?_
          rintro e w5 ⟨v, lt, rfl, h1, h2, h3, hg5⟩
          obtain ⟨va, vc, rfl⟩ := owns_slice h2
          have hll : lt.length = k := by have := congrArg List.length h1; simpa [lks, linksR_len] using this
          have G5 := Lib.hid hg5
          have OW := Lib.hid h2
          have LR := Lib.hid h3
          have EL := Lib.hid h1
          have HLL := Lib.hid hll
          rw [hll]
          clear h1 h2 h3 hg5 b3 b5 b6 hh2 hh3 hfr
          go_wp2_with fail
          go_loopw [99] (fun i wr => ∃ m : Nat, m ≤ k ∧ i = .int .i64 m ∧ Gr w5 wr) (fun i _ => k - (intOf i).toNat)
          case atStart => exact ⟨0, Nat.zero_le _, rfl, Gr.refl _⟩
          case round =>
            obtain ⟨m, hm, rfl, hgm⟩ := hrel
            have GM := Lib.hid hgm
            clear hgm
            by_cases hml : m < k
            · obtain ⟨P, hP⟩ : ∃ P : Nat, P = m * n := ⟨_, rfl⟩
              have hPn : P + n ≤ l.length := by
                have := Nat.mul_le_mul_right n (show m + 1 ≤ k by omega)
                rw [Nat.add_mul, Nat.one_mul, ← hP] at this
                exact Nat.le_trans this HWN.out
              have em : (m : Int) * (n : Int) = (P : Int) := by rw [hP]; simp
              have hmt : m < lt.length := by rw [HLL.out]; exact hml
              have hget : lt[m].l = ⟨1, 2, sC, (m : Int), ((l.drop P).take n).map (fun q : Nat => (q : Int))⟩ := by
                have e := linksR_get n k l 0 m (by rw [linksR_len]; omega)
                have e2 : (lks lt)[m]'(by simp [lks]; exact hmt) = lt[m].l := by simp [lks]
                rw [← e2]
                simp only [EL.out]
                rw [e, ← hP, Nat.zero_add]
              have hlr := LR.out lt[m] (List.getElem_mem hmt)
              obtain ⟨g, hg, d0, d1, d2, d3, d4⟩ := lnk_at (Gr.owns OW.out GM.out) (k := m) hmt
              subst hg
              obtain ⟨la, lc, hla⟩ : ∃ la lc, lt[m] = ⟨⟨1, 2, sC, (m : Int), ((l.drop P).take n).map (fun q : Nat => (q : Int))⟩, la, lc⟩ := ⟨lt[m].a, lt[m].c, by rw [← hget]⟩
              rw [hla] at hlr d0 d1 d2 d3 d4
              obtain ⟨xs, has⟩ : ∃ xs : List Int, xs = ((l.drop P).take n).map (fun q : Nat => (q : Int)) := ⟨_, rfl⟩
              simp only [← has] at hlr d0 d1 d2 d3 d4
              have hasl : xs.length = n := by rw [has, List.length_map, List.length_take, List.length_drop]; omega
              obtain ⟨a0, c0, ea, _, hs0⟩ := ints_at hlr.1 hlr.2.1
              cases ea
              rw [hasl] at d4
              have HS := Lib.hid (hs0.giI GM.out)
              have HAS := Lib.hid has
              have HL := Lib.hid hasl
              clear hP hlr hget hla hs0 has hasl
              go_wp2_with fail
              have R8 := Lib.hid (Row.new wr #[.int .i64 1, .int .i64 2, .string (bs sC), .int .i64 m, .slice la n lc] 40)
              obtain ⟨Wl, hWl⟩ : ∃ W : World, Hid (W = wr.alloc (.cells #[.int .i64 1, .int .i64 2, .string (bs sC), .int .i64 m, .slice la n lc] 40)) := ⟨_, Lib.hid rfl⟩
              have GL : Hid (Gr wr Wl) := Lib.hid (by rw [hWl.out]; exact (Gr.refl _).alloc _)
              rw [← hWl.out] at R8
              obtain ⟨LB, hLB⟩ : ∃ N : Nat, Hid (wr.heap.size = N) := ⟨_, Lib.hid rfl⟩
              rw [hLB.out] at R8 ⊢
              clear d0 d1 d2 d3 d4
              go_loopw [123] (fun i wr => ∃ j : Nat, j ≤ n ∧ i = .int .i64 j ∧ Gr Wl wr) (fun i _ => n - (intOf i).toNat)
              case atStart => exact ⟨0, Nat.zero_le _, rfl, by rw [hWl.out]; exact Gr.refl _⟩
              case round =>
                obtain ⟨j, hj, rfl, hgj⟩ := hrel
                have GJ := Lib.hid hgj
                clear hgj
                by_cases hjn : j < n
                · have r8 := (R8.out.gr GJ.out).cell 4 (by simp)
                  simp only [List.getElem_cons_zero, List.getElem_cons_succ] at r8
                  obtain ⟨b1, o1, rfl, c1, _⟩ := ((HS.out.giI GL.out).giI GJ.out).one j (by rw [HL.out]; exact hjn)
                  obtain ⟨bx, ox, rfl, ⟨c2, c22⟩⟩ := L.out.one (P + j) (by omega)
                  have c3 := cell_gr (GT.out.trans (G5.out.trans (GM.out.trans (GL.out.trans GJ.out)))) c2
                  have hx : xs[j]'(by rw [HL.out]; exact hjn) = ((l[P + j]'(by omega) : Nat) : Int) := by
                    have := HAS.out
                    subst this
                    simp
                  rw [hx] at c1
                  obtain ⟨x, hxx⟩ : ∃ x : Nat, Hid (l[P + j]'(by omega) = x) := ⟨_, Lib.hid rfl⟩
                  rw [hxx.out] at c1 c3 c22
                  clear c2 hx
                  go_wp2
                  go_quiet (fail)
                  go_wp2
                  go_roundw
                  case rel => exact ⟨j + 1, by omega, by go_num, by repeat (first | with_reducible exact GJ.out | with_reducible refine Gr.drewN _ ?_)⟩
                  case measure => simp [intOf]; omega
                · go_wp2
                  go_roundw
                  case rel => exact ⟨m + 1, by omega, by go_num, GM.out.trans (GL.out.trans GJ.out)⟩
                  case measure => simp [intOf]; omega
            · rcases Nat.eq_zero_or_pos k with k0 | k0
              · have ek0 : ((k : Int) == 0) = true := by simp [k0]
                have HK0 := Lib.hid k0
                clear k0
                go_wp2_with fail
                refine (awake12_any wr).mono ?_
                rintro e wz ⟨rfl, hgz⟩
                go_wp2_with fail
                go_ret
                exact ⟨rfl, GT.out.trans (G5.out.trans (GM.out.trans hgz))⟩
              · have ek0 : ((k : Int) == 0) = false := by simp; omega
                rcases Nat.eq_zero_or_pos n with z0 | z0
                · first
                  | (exfalso; have := NB.out; omega)
                  | (go_wp2_with fail
                     refine (awake12_any wr).mono ?_
                     rintro e wz ⟨rfl, hgz⟩
                     go_wp2_with fail
                     go_ret
                     exact ⟨rfl, GT.out.trans (G5.out.trans (GM.out.trans hgz))⟩)
                · first
                  | (exfalso; have := NB.out; omega)
                  | (have HK0 := Lib.hid k0
                     have HN0 := Lib.hid z0
                     clear k0 z0
                     go_wp2_with fail
                     have GX := Lib.hid (G5.out.trans GM.out)
                     have b3 := (QT.out.gr GX.out).cell 0 (by simp)
                     have b5 := (QN.out.gr GX.out).cell 5 (by simp)
                     simp only [List.getElem_cons_zero, List.getElem_cons_succ] at b3
                     have h4V : 4 ≤ V.length := by
                       rw [← hV.out, cellsS_length, flatR_len n k l HWN.out, Nat.mul_add]; have := HK0.out; omega
                     refine wp_code_eq (c := Code.region 35 (regIn 35 Try.f3) true) (by kernel_rfl) (lz35 b3 (QN.out.gr GX.out) b5 ⟨h4V, HLV.out⟩ ?_)
                     intro t150 t151 t152 t153 t154 t155 t156 t157 t158 t159 t160 wx hfin
                     have FN := Lib.hid hfin
                     unfold lz35A
                     clear hfin b3 b5
                     obtain ⟨B, w9, hwx, g9, r9, hb9⟩ := FN.out
                     clear FN
                     have hB2h := (QN.out.gr GX.out).has
                     have hne : B2 ≠ B := by unfold Has at hB2h; omega
                     have hne1 : B2 ≠ B1 := by have := hB2.out; omega
                     have GY := GX.out.trans g9
                     have r0 : Row wx B 29 [.string (bs sC), .string (bs (V.take (V.length - 4)))] := by rw [hwx]; exact r9.oth hne
                     have r1 : Row wx B1 29 [.string (bs sK), .string (bs (cellsS [n])), .string (bs phS), .string (bs (cellsS [77]))] := by rw [hwx]; exact (QP.out.gr GY).oth hne1
                     have r2 := (QN.out.gr GY).set 5 (.slice (some ⟨B, 0, none⟩) 1 1)
                     rw [← hwx] at r2
                     have r3 : Row wx B3 32 [.slice (some ⟨B2, 0, none⟩) 3 3] := by rw [hwx]; exact (QT.out.gr GY).oth HN32.out
                     have b3 := r3.cell 0 (by simp)
                     simp only [List.getElem_cons_zero] at b3
                     have hlV' : (V.take (V.length - 4)).length ≤ 256 := by rw [List.length_take]; have := HLV.out; omega
                     have hcut : V.take (V.length - 4) = cellsS (flatR n k l).dropLast := by rw [← hV.out]; exact cells_take _
                     have hof : ofT (laT n (V.take (V.length - 4))) 1 sC sK = .error 26 := by rw [hcut]; exact laT_cut n k l hn8 HN0.out HK0.out HWN.out HV.out
                     have hC := Of_any (laT n (V.take (V.length - 4))) (some ⟨B2, 0, none⟩) 3 1 sC sK wx (laT_at2 n _ wx B B1 B2 (by omega) hn8 r0 r1 r2) (laT_chk n _ hlV') (by simp [laT])
                     rw [hof] at hC
                     have HC := Lib.hid hC
                     have GW : Hid (Gr w wx) := Lib.hid (by rw [hwx]; exact (GT.out.trans GY).setc hgB)
                     clear hC hof hcut hlV' r0 r1 r2 r3 hne hne1 GY hwx g9 r9 hb9 hB2h
                     go_wp2_with fail
                     refine HC.out.mono ?_
                     rintro e w8 ⟨rfl, hg8⟩
                     have G8 := Lib.hid (GW.out.trans hg8)
                     clear hg8
                     go_wp2_with (first | (go_at_call 5; refine (awake12_any _).mono ?_; rintro e wz ⟨rfl, hgz⟩) | fail)
                     go_ret
                     exact ⟨rfl, G8.out.trans hgz⟩)
end Go.Proofs.Ytdjhnfopdlgliaa

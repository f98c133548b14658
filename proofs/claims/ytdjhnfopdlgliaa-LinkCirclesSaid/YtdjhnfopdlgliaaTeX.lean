/- awake: the chapter's example. -/
import Derived.Test.YtdjhnfopdlgliaaTeW
set_option linter.unusedVariables false
set_option linter.unusedSimpArgs false
namespace Go.Proofs.Ytdjhnfopdlgliaa
open Go.RowKit
open Classical

theorem cellsNew (ns : List Nat) (w : World) (arr : Array Value) (h : arr.toList = nums (ns.map (fun n : Nat => (n : Int)))) (hn : ∀ n ∈ ns, n < 4294967296) (h0 : 0 < ns.length) (hf : ns.length ≤ 1000) (k N : Nat) (hk : k = ns.length) (hN : w.heap.size = N) :
    Calls Try.prog 6 #[.slice (some ⟨N, 0, none⟩) k k] (w.alloc (.cells arr 3)) fun e w' => e = .returned (.string (bs (cellsS ns))) ∧ Gr w w' := by
  subst hk
  subst hN
  have R := Row.new w arr 3
  rw [h] at R
  refine (growCells_any ns _ ns.length _ (ints_row R hn) hn h0 hf).mono ?_
  rintro e w' ⟨rfl, hg⟩
  exact ⟨rfl, ((Gr.refl _).alloc _).trans hg⟩
theorem intsNew (xs : List Int) (ns : List Nat) (ax : Option Addr) (cx : Nat) (w : World) (hx : SlOf 1 RI w ax xs) (fx : xs.length ≤ 1000) (arr : Array Value) (h : arr.toList = nums (ns.map (fun n : Nat => (n : Int)))) (hn : ∀ n ∈ ns, n < 4294967296) (hf : ns.length ≤ 1000) (j k N : Nat) (hj : j = xs.length) (hk : k = ns.length) (hN : w.heap.size = N) :
    Calls Try.prog 10 #[.slice ax j cx, .slice (some ⟨N, 0, none⟩) k k] (w.alloc (.cells arr 3)) (Grows w (.bool (decide (xs = ns.map (fun n : Nat => (n : Int)))))) := by
  subst hj
  subst hk
  subst hN
  have R := Row.new w arr 3
  rw [h] at R
  have := ints_any xs (ns.map (fun n : Nat => (n : Int))) ax (some ⟨w.heap.size, 0, none⟩) cx ns.length _ (hx.giI ((Gr.refl _).alloc _)) (ints_row R hn) (by unfold Fit; omega) (by unfold Fit; simp; omega)
  rw [List.length_map] at this
  exact this.mono fun e w' q => ⟨q.1, ((Gr.refl _).alloc _).trans q.2⟩
set_option maxRecDepth 100000 in
set_option maxHeartbeats 8000000 in
theorem awake12_any (w : World) : Calls Try.prog 5 #[] w (Grows w (.bool true)) := by
  go_enter Try.func5, Try.ntmps5
  go_wp2_with fail
  refine (cellsNew [1, 5, 2] w #[.int .i64 1, .int .i64 5, .int .i64 2] rfl (by simp) (by simp) (by simp) 3 _ rfl rfl).mono ?_
  rintro e w1 ⟨rfl, hg1⟩
  have G1 := Lib.hid hg1
  clear hg1
  go_wp2_with fail
  have R1 := Lib.hid (Row.new w1 #[.string (bs sC), .string (bs (cellsS [1, 5, 2]))] 29)
  refine (cellsNew [1] (w1.alloc (.cells #[.string (bs sC), .string (bs (cellsS [1, 5, 2]))] 29)) #[.int .i64 1] rfl (by simp) (by simp) (by simp) 1 _ rfl (by simp)).mono ?_
  rintro e w2 ⟨rfl, hg2⟩
  have G2 := Lib.hid ((G1.out.alloc _).trans hg2)
  have R12 := Lib.hid (R1.out.gr hg2)
  clear hg2 R1
  go_wp2_with fail
  refine (cellsNew [1] w2 #[.int .i64 1] rfl (by simp) (by simp) (by simp) 1 _ rfl rfl).mono ?_
  rintro e w3 ⟨rfl, hg3⟩
  have G3 := Lib.hid (G2.out.trans hg3)
  have R13 := Lib.hid (R12.out.gr hg3)
  clear hg3 R12
  go_wp2_with fail
  have R3 := Lib.hid (Row.new w3 #[.string (bs sCC), .string (bs (cellsS [1])), .string (bs phS), .string (bs (cellsS [1]))] 29)
  have R13' := Lib.hid (R13.out.alloc (.cells #[.string (bs sCC), .string (bs (cellsS [1])), .string (bs phS), .string (bs (cellsS [1]))] 29))
  refine (cellsNew [2] (w3.alloc (.cells #[.string (bs sCC), .string (bs (cellsS [1])), .string (bs phS), .string (bs (cellsS [1]))] 29)) #[.int .i64 2] rfl (by simp) (by simp) (by simp) 1 _ rfl (by simp)).mono ?_
  rintro e w4 ⟨rfl, hg4⟩
  have G4 := Lib.hid ((G3.out.alloc _).trans hg4)
  have R14 := Lib.hid (R13'.out.gr hg4)
  have R34 := Lib.hid (R3.out.gr hg4)
  clear hg4 R13' R3 R13
  obtain ⟨B1, hB1⟩ : ∃ N : Nat, Hid (w1.heap.size = N) := ⟨_, Lib.hid rfl⟩
  obtain ⟨B3, hB3⟩ : ∃ N : Nat, Hid (w3.heap.size = N) := ⟨_, Lib.hid rfl⟩
  rw [hB1.out] at R14 ⊢
  rw [hB3.out] at R34 ⊢
  go_wp2_with fail
  have R4 := Lib.hid (Row.new w4 #[.string (bs phS), .string (bs (cellsS [2]))] 29)
  obtain ⟨W1, hW1⟩ : ∃ W : World, Hid (W = w4.alloc (.cells #[.string (bs phS), .string (bs (cellsS [2]))] 29)) := ⟨_, Lib.hid rfl⟩
  have z1 : Hid (W1.heap.size = w4.heap.size + 1) := Lib.hid (by rw [hW1.out]; simp)
  obtain ⟨B4, hB4⟩ : ∃ N : Nat, Hid (w4.heap.size = N) := ⟨_, Lib.hid rfl⟩
  have R5 := Lib.hid (Row.new W1 #[.int .i64 (-1), .string (bs []), .slice none 0 0, .int .i64 0, .string (bs [97]), .slice (some ⟨B1, 0, none⟩) 1 1, .int .i64 0, .string (bs [98]), .slice (some ⟨B3, 0, none⟩) 2 2, .int .i64 0, .string (bs [99]), .slice (some ⟨B4, 0, none⟩) 1 1] 26)
  obtain ⟨W2, hW2⟩ : ∃ W : World, Hid (W = W1.alloc (.cells #[.int .i64 (-1), .string (bs []), .slice none 0 0, .int .i64 0, .string (bs [97]), .slice (some ⟨B1, 0, none⟩) 1 1, .int .i64 0, .string (bs [98]), .slice (some ⟨B3, 0, none⟩) 2 2, .int .i64 0, .string (bs [99]), .slice (some ⟨B4, 0, none⟩) 1 1] 26)) := ⟨_, Lib.hid rfl⟩
  have z2 : Hid (W2.heap.size = w4.heap.size + 1 + 1) := Lib.hid (by rw [hW2.out]; simp [z1.out])
  obtain ⟨B5, hB5⟩ : ∃ N : Nat, Hid (w4.heap.size + 1 = N) := ⟨_, Lib.hid rfl⟩
  have R6 := Lib.hid (Row.new W2 #[.slice (some ⟨B5, 0, none⟩) 4 4] 32)
  obtain ⟨W3, hW3⟩ : ∃ W : World, Hid (W = W2.alloc (.cells #[.slice (some ⟨B5, 0, none⟩) 4 4] 32)) := ⟨_, Lib.hid rfl⟩
  obtain ⟨B6, hB6⟩ : ∃ N : Nat, Hid (w4.heap.size + 1 + 1 = N) := ⟨_, Lib.hid rfl⟩
  have g1 : Gr w4 W1 := by rw [hW1.out]; exact (Gr.refl _).alloc _
  have g2 : Gr W1 W2 := by rw [hW2.out]; exact (Gr.refl _).alloc _
  have g3 : Gr W2 W3 := by rw [hW3.out]; exact (Gr.refl _).alloc _
  rw [← hW1.out, hB4.out] at R4
  rw [← hW2.out, z1.out, hB5.out] at R5
  rw [← hW3.out, z2.out, hB6.out] at R6
  have SLT : Hid (SlOf 3 RNod W3 (some ⟨B5, 0, none⟩) exT) := Lib.hid (by
    refine nods_of_row (ts := [⟨⟨-1, [], []⟩, none, 0⟩, ⟨⟨0, [97], [⟨sC, cellsS [1, 5, 2]⟩]⟩, some ⟨B1, 0, none⟩, 1⟩, ⟨⟨0, [98], [⟨sCC, cellsS [1]⟩, ⟨phS, cellsS [1]⟩]⟩, some ⟨B3, 0, none⟩, 2⟩, ⟨⟨0, [99], [⟨phS, cellsS [2]⟩]⟩, some ⟨B4, 0, none⟩, 1⟩]) (R5.out.gr g3) ?_
    intro t ht
    simp only [List.mem_cons, List.not_mem_nil, or_false] at ht
    rcases ht with rfl | rfl | rfl | rfl
    · exact ⟨by simp [Wide], by simp, by simp, by simp [Fit], SlOf.nil _ _ _ _⟩
    · exact ⟨by simp [Wide], by simp, by simp, by simp [Fit], prps_of_row (ps := [⟨sC, cellsS [1, 5, 2]⟩]) (R14.out.gr (g1.trans (g2.trans g3))) (by simp only [List.mem_singleton]; rintro p rfl; decide)⟩
    · exact ⟨by simp [Wide], by simp, by simp, by simp [Fit], prps_of_row (ps := [⟨sCC, cellsS [1]⟩, ⟨phS, cellsS [1]⟩]) (R34.out.gr (g1.trans (g2.trans g3))) (by simp only [List.mem_cons, List.not_mem_nil, or_false]; rintro p (rfl | rfl) <;> decide)⟩
    · exact ⟨by simp [Wide], by simp, by simp, by simp [Fit], prps_of_row (ps := [⟨phS, cellsS [2]⟩]) (R4.out.gr (g2.trans g3)) (by simp only [List.mem_singleton]; rintro p rfl; decide)⟩)
  have G5 := Lib.hid (G4.out.trans (g1.trans (g2.trans g3)))
  rw [hB6.out, hB5.out, hB4.out]
  have hC := Of_any exT (some ⟨B5, 0, none⟩) 4 1 sC sCC W3 SLT.out exT_chk (by decide)
  rw [exT_of] at hC
  have HW3 := Lib.hid (show W3 = ((w4.alloc (.cells #[.string (bs phS), .string (bs (cellsS [2]))] 29)).alloc (.cells #[.int .i64 (-1), .string (bs []), .slice none 0 0, .int .i64 0, .string (bs [97]), .slice (some ⟨B1, 0, none⟩) 1 1, .int .i64 0, .string (bs [98]), .slice (some ⟨B3, 0, none⟩) 2 2, .int .i64 0, .string (bs [99]), .slice (some ⟨B4, 0, none⟩) 1 1] 26)).alloc (.cells #[.slice (some ⟨B5, 0, none⟩) 4 4] 32) by rw [hW3.out, hW2.out, hW1.out])
  have HC : Hid (Calls Try.prog 7 #[.agg #[.slice (some ⟨B5, 0, none⟩) 4 4], .int .i64 1, .string (bs sC), .string (bs sCC)] (((w4.alloc (.cells #[.string (bs phS), .string (bs (cellsS [2]))] 29)).alloc (.cells #[.int .i64 (-1), .string (bs []), .slice none 0 0, .int .i64 0, .string (bs [97]), .slice (some ⟨B1, 0, none⟩) 1 1, .int .i64 0, .string (bs [98]), .slice (some ⟨B3, 0, none⟩) 2 2, .int .i64 0, .string (bs [99]), .slice (some ⟨B4, 0, none⟩) 1 1] 26)).alloc (.cells #[.slice (some ⟨B5, 0, none⟩) 4 4] 32)) (GivesLks W3 (.ok [⟨1, 2, sC, 0, [5]⟩, ⟨1, 3, sC, 1, []⟩]))) := Lib.hid (by rw [← HW3.out]; exact hC)
  clear hC HW3 g1 g2 g3
  refine HC.out.mono ?_
  rintro e w5 ⟨v, lt, rfl, h1, h2, h3, hg5⟩
  obtain ⟨va, vc, rfl⟩ := owns_slice h2
  obtain ⟨t0, t1, rfl⟩ : ∃ t0 t1, lt = [t0, t1] := by
    have hl : lt.length = 2 := by have := congrArg List.length h1; simpa [lks] using this
    match lt, hl with
    | [t0, t1], _ => exact ⟨t0, t1, rfl⟩
  have e0 : t0.l = ⟨1, 2, sC, 0, [5]⟩ := by simp [lks] at h1; exact h1.1
  have e1 : t1.l = ⟨1, 3, sC, 1, []⟩ := by simp [lks] at h1; exact h1.2
  have hr0 := h3 t0 (by simp)
  obtain ⟨gB, hgB, d0, d1, d2, d3, d4⟩ := lnk_at h2 (k := 0) (by simp)
  obtain ⟨gB', hgB', f0, f1, f2, f3, f4⟩ := lnk_at h2 (k := 1) (by simp)
  subst hgB
  cases hgB'
  simp only [List.getElem_cons_zero, List.getElem_cons_succ, e0, e1] at d1 d4 f1 hr0
  have G6 := Lib.hid (G5.out.trans hg5)
  have b6 : w5.cell? ⟨B6, 0, none⟩ = some (.slice (some ⟨B5, 0, none⟩) 4 4) := (R6.out.gr hg5).cell 0 (by simp)
  have SL5 := Lib.hid (SLT.out.gr RNod.mono hg5)
  obtain ⟨a0, c0, ea, _, hs0⟩ := ints_at hr0.1 hr0.2.1
  have DD := Lib.hid (And.intro d1 (And.intro d4 f1))
  have HS0 := Lib.hid hs0
  have EA := Lib.hid ea
  clear h1 h2 h3 hg5 e0 e1 hr0 d0 d1 d2 d3 d4 f0 f1 f2 f3 f4 hs0 ea
  go_wp2_with fail
  have hO := order_any exT (some ⟨B5, 0, none⟩) 4 sC sCC w5 SL5.out exT_chk
  rw [exT_order] at hO
  refine hO.mono ?_
  rintro e w6 ⟨vo, rfl, ho, ho2, hg6⟩
  obtain ⟨a6, c6, rfl, _, hs6⟩ := ints_at ho ho2
  have S6 := Lib.hid hs6
  have G7 := Lib.hid (G6.out.trans hg6)
  have d1 := cell_gr hg6 DD.out.1
  have d4 := cell_gr hg6 DD.out.2.1
  rw [EA.out] at d4
  have f1 := cell_gr hg6 DD.out.2.2
  have D6 := Lib.hid (And.intro d1 (And.intro d4 f1))
  have HS6 := Lib.hid (HS0.out.giI hg6)
  clear hO ho ho2 hg6 hs6
  go_wp2_with fail
  refine (intsNew [5] [5] a0 c0 w6 HS6.out (by simp) #[.int .i64 5] rfl (by simp) (by simp) 1 1 _ rfl rfl rfl).mono ?_
  rintro e w7 ⟨rfl, hg7⟩
  have G8 := Lib.hid (G7.out.trans hg7)
  have f7 := cell_gr hg7 D6.out.2.2
  have S7 := Lib.hid (S6.out.giI hg7)
  clear hg7
  have eT : (decide (([5] : List Int) = [5].map (fun n : Nat => (n : Int)))) = true := by simp
  simp only [eT]
  go_wp2_with fail
  refine (intsNew [0, 2, 3, 1] [0, 2, 3, 1] a6 c6 w7 S7.out (by simp) #[.int .i64 0, .int .i64 2, .int .i64 3, .int .i64 1] rfl (by simp) (by simp) 4 4 _ rfl rfl rfl).mono ?_
  rintro e w8 ⟨rfl, hg8⟩
  have G9 := Lib.hid (G8.out.trans hg8)
  clear hg8
  have eU : (decide (([0, 2, 3, 1] : List Int) = [0, 2, 3, 1].map (fun n : Nat => (n : Int)))) = true := by simp
  simp only [eU]
  go_wp2_with fail
  go_ret
  exact ⟨rfl, G9.out⟩
end Go.Proofs.Ytdjhnfopdlgliaa

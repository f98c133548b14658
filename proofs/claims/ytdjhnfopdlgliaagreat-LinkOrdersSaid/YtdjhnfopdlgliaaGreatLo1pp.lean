/- Lemmas and contracts for the proof of LinkOrders (several texts in one, printed by wip/tools/pack.py): TeX TeY TfA LoA LoB VeB LqC. -/
import Derived.Test.YtdjhnfopdlgliaaGreatLo1po
import Derived.Test.YtdjhnfopdlgliaaGreatLo1pb
import Derived.Test.YtdjhnfopdlgliaaGreatLo1pi
import Derived.Test.YtdjhnfopdlgliaaGreatLo1pm
set_option maxRecDepth 100000
set_option maxHeartbeats 16000000
set_option linter.unusedVariables false
set_option linter.unusedSimpArgs false
namespace Go.Proofs.YtdjhnfopdlgliaaGreat
open Go.RowKit
open Classical
theorem cellsNew (ns : List Nat) (w : World) (arr : Array Value) (h : arr.toList = nums (ns.map (fun n : Nat => (n : Int)))) (hn : ∀ n ∈ ns, n < 4294967296) (h0 : 0 < ns.length) (hf : ns.length ≤ 1000) (k N : Nat) (hk : k = ns.length) (hN : w.heap.size = N) :
    Calls Tryz.prog 19 #[.slice (some ⟨N, 0, none⟩) k k] (w.alloc (.cells arr 3)) fun e w' => e = .returned (.string (bs (cellsS ns))) ∧ Gr w w' := by
  subst hk
  subst hN
  have R := Row.new w arr 3
  rw [h] at R
  refine (growCells_any ns _ ns.length _ (ints_row R hn) hn h0 hf).mono ?_
  rintro e w' ⟨rfl, hg⟩
  exact ⟨rfl, ((Gr.refl _).alloc _).trans hg⟩
theorem intsNew (xs : List Int) (ns : List Nat) (ax : Option Addr) (cx : Nat) (w : World) (hx : SlOf 1 RI w ax xs) (fx : xs.length ≤ 1000) (arr : Array Value) (h : arr.toList = nums (ns.map (fun n : Nat => (n : Int)))) (hn : ∀ n ∈ ns, n < 4294967296) (hf : ns.length ≤ 1000) (j k N : Nat) (hj : j = xs.length) (hk : k = ns.length) (hN : w.heap.size = N) :
    Calls Tryz.prog 28 #[.slice ax j cx, .slice (some ⟨N, 0, none⟩) k k] (w.alloc (.cells arr 3)) (Grows w (.bool (decide (xs = ns.map (fun n : Nat => (n : Int)))))) := by
  subst hj
  subst hk
  subst hN
  have R := Row.new w arr 3
  rw [h] at R
  have := ints_any xs (ns.map (fun n : Nat => (n : Int))) ax (some ⟨w.heap.size, 0, none⟩) cx ns.length _ (hx.giI ((Gr.refl _).alloc _)) (ints_row R hn) (by unfold Fit; omega) (by unfold Fit; simp; omega)
  rw [List.length_map] at this
  exact this.mono fun e w' q => ⟨q.1, ((Gr.refl _).alloc _).trans q.2⟩
theorem awake12_any (w : World) : Calls Tryz.prog 10 #[] w (Grows w (.bool true)) := by
  go_enter Tryz.func10, Tryz.ntmps10
  go_wp2_with fail
  refine (cellsNew [1, 5, 2] w #[.int .i64 1, .int .i64 5, .int .i64 2] rfl (by simp) (by simp) (by simp) 3 _ rfl rfl).mono ?_
  rintro e w1 ⟨rfl, hg1⟩
  have G1 := Lib.hid hg1
  clear hg1
  go_wp2_with fail
  have R1 := Lib.hid (Row.new w1 #[.string (bs sC), .string (bs (cellsS [1, 5, 2]))] 89)
  refine (cellsNew [1] (w1.alloc (.cells #[.string (bs sC), .string (bs (cellsS [1, 5, 2]))] 89)) #[.int .i64 1] rfl (by simp) (by simp) (by simp) 1 _ rfl (by simp)).mono ?_
  rintro e w2 ⟨rfl, hg2⟩
  have G2 := Lib.hid ((G1.out.alloc _).trans hg2)
  have R12 := Lib.hid (R1.out.gr hg2)
  clear hg2 R1
  go_wp2_with fail
  refine (cellsNew [1] w2 #[.int .i64 1] rfl (by simp) (by simp) (by simp) 1 _ rfl rfl).mono ?_
  rintro e w3 ⟨rfl, hg3⟩
  have G3 := Lib.hid (G2.out.trans hg3)
  have R13 := Lib.hid (R12.out.gr hg3)
  clear hg3 R12
  go_wp2_with fail
  have R3 := Lib.hid (Row.new w3 #[.string (bs sCC), .string (bs (cellsS [1])), .string (bs phS), .string (bs (cellsS [1]))] 89)
  have R13' := Lib.hid (R13.out.alloc (.cells #[.string (bs sCC), .string (bs (cellsS [1])), .string (bs phS), .string (bs (cellsS [1]))] 89))
  refine (cellsNew [2] (w3.alloc (.cells #[.string (bs sCC), .string (bs (cellsS [1])), .string (bs phS), .string (bs (cellsS [1]))] 89)) #[.int .i64 2] rfl (by simp) (by simp) (by simp) 1 _ rfl (by simp)).mono ?_
  rintro e w4 ⟨rfl, hg4⟩
  have G4 := Lib.hid ((G3.out.alloc _).trans hg4)
  have R14 := Lib.hid (R13'.out.gr hg4)
  have R34 := Lib.hid (R3.out.gr hg4)
  clear hg4 R13' R3 R13
  obtain ⟨B1, hB1⟩ : ∃ N : Nat, Hid (w1.heap.size = N) := ⟨_, Lib.hid rfl⟩
  obtain ⟨B3, hB3⟩ : ∃ N : Nat, Hid (w3.heap.size = N) := ⟨_, Lib.hid rfl⟩
  rw [hB1.out] at R14 ⊢
  rw [hB3.out] at R34 ⊢
  go_wp2_with fail
  have R4 := Lib.hid (Row.new w4 #[.string (bs phS), .string (bs (cellsS [2]))] 89)
  obtain ⟨W1, hW1⟩ : ∃ W : World, Hid (W = w4.alloc (.cells #[.string (bs phS), .string (bs (cellsS [2]))] 89)) := ⟨_, Lib.hid rfl⟩
  have z1 : Hid (W1.heap.size = w4.heap.size + 1) := Lib.hid (by rw [hW1.out]; simp)
  obtain ⟨B4, hB4⟩ : ∃ N : Nat, Hid (w4.heap.size = N) := ⟨_, Lib.hid rfl⟩
  have R5 := Lib.hid (Row.new W1 #[.int .i64 (-1), .string (bs []), .slice none 0 0, .int .i64 0, .string (bs [97]), .slice (some ⟨B1, 0, none⟩) 1 1, .int .i64 0, .string (bs [98]), .slice (some ⟨B3, 0, none⟩) 2 2, .int .i64 0, .string (bs [99]), .slice (some ⟨B4, 0, none⟩) 1 1] 55)
  obtain ⟨W2, hW2⟩ : ∃ W : World, Hid (W = W1.alloc (.cells #[.int .i64 (-1), .string (bs []), .slice none 0 0, .int .i64 0, .string (bs [97]), .slice (some ⟨B1, 0, none⟩) 1 1, .int .i64 0, .string (bs [98]), .slice (some ⟨B3, 0, none⟩) 2 2, .int .i64 0, .string (bs [99]), .slice (some ⟨B4, 0, none⟩) 1 1] 55)) := ⟨_, Lib.hid rfl⟩
  have z2 : Hid (W2.heap.size = w4.heap.size + 1 + 1) := Lib.hid (by rw [hW2.out]; simp [z1.out])
  obtain ⟨B5, hB5⟩ : ∃ N : Nat, Hid (w4.heap.size + 1 = N) := ⟨_, Lib.hid rfl⟩
  have R6 := Lib.hid (Row.new W2 #[.slice (some ⟨B5, 0, none⟩) 4 4] 31)
  obtain ⟨W3, hW3⟩ : ∃ W : World, Hid (W = W2.alloc (.cells #[.slice (some ⟨B5, 0, none⟩) 4 4] 31)) := ⟨_, Lib.hid rfl⟩
  obtain ⟨B6, hB6⟩ : ∃ N : Nat, Hid (w4.heap.size + 1 + 1 = N) := ⟨_, Lib.hid rfl⟩
  have g1 : Gr w4 W1 := by rw [hW1.out]; exact (Gr.refl _).alloc _
  have g2 : Gr W1 W2 := by rw [hW2.out]; exact (Gr.refl _).alloc _
  have g3 : Gr W2 W3 := by rw [hW3.out]; exact (Gr.refl _).alloc _
  rw [← hW1.out, hB4.out] at R4
  rw [← hW2.out, z1.out, hB5.out] at R5
  rw [← hW3.out, z2.out, hB6.out] at R6
  have SLT : Hid (SlOf 3 RNod W3 (some ⟨B5, 0, none⟩) exT) := Lib.hid (by
    refine nods_of_row (ts := [⟨⟨-1, [], []⟩, none, 0⟩, ⟨⟨0, [97], [⟨sC, cellsS [1, 5, 2]⟩]⟩, some ⟨B1, 0, none⟩, 1⟩, ⟨⟨0, [98], [⟨sCC, cellsS [1]⟩, ⟨phS, cellsS [1]⟩]⟩, some ⟨B3, 0, none⟩, 2⟩, ⟨⟨0, [99], [⟨phS, cellsS [2]⟩]⟩, some ⟨B4, 0, none⟩, 1⟩]) (R5.out.gr g3) ?_
    intro t ht
    simp only [List.mem_cons, List.not_mem_nil, or_false] at ht
    rcases ht with rfl | rfl | rfl | rfl
    · exact ⟨by simp [Wide], by simp, by simp, by simp [Fit], SlOf.nil _ _ _ _⟩
    · exact ⟨by simp [Wide], by simp, by simp, by simp [Fit], prps_of_row (ps := [⟨sC, cellsS [1, 5, 2]⟩]) (R14.out.gr (g1.trans (g2.trans g3))) (by simp only [List.mem_singleton]; rintro p rfl; decide)⟩
    · exact ⟨by simp [Wide], by simp, by simp, by simp [Fit], prps_of_row (ps := [⟨sCC, cellsS [1]⟩, ⟨phS, cellsS [1]⟩]) (R34.out.gr (g1.trans (g2.trans g3))) (by simp only [List.mem_cons, List.not_mem_nil, or_false]; rintro p (rfl | rfl) <;> decide)⟩
    · exact ⟨by simp [Wide], by simp, by simp, by simp [Fit], prps_of_row (ps := [⟨phS, cellsS [2]⟩]) (R4.out.gr (g2.trans g3)) (by simp only [List.mem_singleton]; rintro p rfl; decide)⟩)
  have G5 := Lib.hid (G4.out.trans (g1.trans (g2.trans g3)))
  rw [hB6.out, hB5.out, hB4.out]
  have hC := Of_any exT (some ⟨B5, 0, none⟩) 4 1 sC sCC W3 SLT.out exT_chk (by decide)
  rw [exT_of] at hC
  have HW3 := Lib.hid (show W3 = ((w4.alloc (.cells #[.string (bs phS), .string (bs (cellsS [2]))] 89)).alloc (.cells #[.int .i64 (-1), .string (bs []), .slice none 0 0, .int .i64 0, .string (bs [97]), .slice (some ⟨B1, 0, none⟩) 1 1, .int .i64 0, .string (bs [98]), .slice (some ⟨B3, 0, none⟩) 2 2, .int .i64 0, .string (bs [99]), .slice (some ⟨B4, 0, none⟩) 1 1] 55)).alloc (.cells #[.slice (some ⟨B5, 0, none⟩) 4 4] 31) by rw [hW3.out, hW2.out, hW1.out])
  have HC : Hid (Calls Tryz.prog 9 #[.agg #[.slice (some ⟨B5, 0, none⟩) 4 4], .int .i64 1, .string (bs sC), .string (bs sCC)] (((w4.alloc (.cells #[.string (bs phS), .string (bs (cellsS [2]))] 89)).alloc (.cells #[.int .i64 (-1), .string (bs []), .slice none 0 0, .int .i64 0, .string (bs [97]), .slice (some ⟨B1, 0, none⟩) 1 1, .int .i64 0, .string (bs [98]), .slice (some ⟨B3, 0, none⟩) 2 2, .int .i64 0, .string (bs [99]), .slice (some ⟨B4, 0, none⟩) 1 1] 55)).alloc (.cells #[.slice (some ⟨B5, 0, none⟩) 4 4] 31)) (GivesLks W3 (.ok [⟨1, 2, sC, 0, [5]⟩, ⟨1, 3, sC, 1, []⟩]))) := Lib.hid (by rw [← HW3.out]; exact hC)
  clear hC HW3 g1 g2 g3
  refine HC.out.mono ?_
  rintro e w5 ⟨v, lt, rfl, h1, h2, h3, hg5⟩
  obtain ⟨va, vc, rfl⟩ := owns_slice h2
  obtain ⟨t0, t1, rfl⟩ : ∃ t0 t1, lt = [t0, t1] := by
    have hl : lt.length = 2 := by have := congrArg List.length h1; simpa [lks] using this
    match lt, hl with
    | [t0, t1], _ => exact ⟨t0, t1, rfl⟩
  have e0 : t0.l = ⟨1, 2, sC, 0, [5]⟩ := by simp [lks] at h1; exact h1.1
  have e1 : t1.l = ⟨1, 3, sC, 1, []⟩ := by simp [lks] at h1; exact h1.2
  have hr0 := h3 t0 (by simp)
  obtain ⟨gB, hgB, d0, d1, d2, d3, d4⟩ := lnk_at h2 (k := 0) (by simp)
  obtain ⟨gB', hgB', f0, f1, f2, f3, f4⟩ := lnk_at h2 (k := 1) (by simp)
  subst hgB
  cases hgB'
  simp only [List.getElem_cons_zero, List.getElem_cons_succ, e0, e1] at d1 d4 f1 hr0
  have G6 := Lib.hid (G5.out.trans hg5)
  have b6 : w5.cell? ⟨B6, 0, none⟩ = some (.slice (some ⟨B5, 0, none⟩) 4 4) := (R6.out.gr hg5).cell 0 (by simp)
  have SL5 := Lib.hid (SLT.out.gr RNod.mono hg5)
  obtain ⟨a0, c0, ea, _, hs0⟩ := ints_at hr0.1 hr0.2.1
  have DD := Lib.hid (And.intro d1 (And.intro d4 f1))
  have HS0 := Lib.hid hs0
  have EA := Lib.hid ea
  clear h1 h2 h3 hg5 e0 e1 hr0 d0 d1 d2 d3 d4 f0 f1 f2 f3 f4 hs0 ea
  go_wp2_with fail
  have hO := order_any exT (some ⟨B5, 0, none⟩) 4 sC sCC w5 SL5.out exT_chk
  rw [exT_order] at hO
  refine hO.mono ?_
  rintro e w6 ⟨vo, rfl, ho, ho2, hg6⟩
  obtain ⟨a6, c6, rfl, _, hs6⟩ := ints_at ho ho2
  have S6 := Lib.hid hs6
  have G7 := Lib.hid (G6.out.trans hg6)
  have d1 := cell_gr hg6 DD.out.1
  have d4 := cell_gr hg6 DD.out.2.1
  rw [EA.out] at d4
  have f1 := cell_gr hg6 DD.out.2.2
  have D6 := Lib.hid (And.intro d1 (And.intro d4 f1))
  have HS6 := Lib.hid (HS0.out.giI hg6)
  clear hO ho ho2 hg6 hs6
  go_wp2_with fail
  refine (intsNew [5] [5] a0 c0 w6 HS6.out (by simp) #[.int .i64 5] rfl (by simp) (by simp) 1 1 _ rfl rfl rfl).mono ?_
  rintro e w7 ⟨rfl, hg7⟩
  have G8 := Lib.hid (G7.out.trans hg7)
  have f7 := cell_gr hg7 D6.out.2.2
  have S7 := Lib.hid (S6.out.giI hg7)
  clear hg7
  have eT : (decide (([5] : List Int) = [5].map (fun n : Nat => (n : Int)))) = true := by simp
  simp only [eT]
  go_wp2_with fail
  refine (intsNew [0, 2, 3, 1] [0, 2, 3, 1] a6 c6 w7 S7.out (by simp) #[.int .i64 0, .int .i64 2, .int .i64 3, .int .i64 1] rfl (by simp) (by simp) 4 4 _ rfl rfl rfl).mono ?_
  rintro e w8 ⟨rfl, hg8⟩
  have G9 := Lib.hid (G8.out.trans hg8)
  clear hg8
  have eU : (decide (([0, 2, 3, 1] : List Int) = [0, 2, 3, 1].map (fun n : Nat => (n : Int)))) = true := by simp
  simp only [eU]
  go_wp2_with fail
  go_ret
  exact ⟨rfl, G9.out⟩
end Go.Proofs.YtdjhnfopdlgliaaGreat

set_option linter.unusedVariables false
set_option linter.unusedSimpArgs false
namespace Go.Proofs.YtdjhnfopdlgliaaGreat
open Go.RowKit
abbrev ci (l : List Nat) : List Int := l.map (fun m : Nat => (m : Int))
def stepV (tt : Nat) (out : List Nat) (y : Int) : Nat := if y = (tt : Int) then 1 else if (tt : Int) < y ∧ 0 < out.getD y.toNat 0 then out.getD y.toNat 0 + 1 else 0
def relax (tt x : Nat) (s : List Nat × Bool) (y : Int) : List Nat × Bool :=
  if 0 < stepV tt s.1 y ∧ (s.1.getD x 0 = 0 ∨ stepV tt s.1 y < s.1.getD x 0) then (s.1.set x (stepV tt s.1 y), true) else s
def passX (gs : List (List Int)) (tt : Nat) (s : List Nat × Bool) (x : Nat) : List Nat × Bool := (gs.getD x []).foldl (relax tt x) s
def passD (gs : List (List Int)) (tt : Nat) (s : List Nat × Bool) : List Nat × Bool := (List.range' tt (gs.length - tt)).foldl (passX gs tt) s
def distF (gs : List (List Int)) (tt : Nat) : Nat → List Nat → List Nat
  | 0, out => out
  | f + 1, out => if (passD gs tt (out, false)).2 = true then distF gs tt f (passD gs tt (out, false)).1 else (passD gs tt (out, false)).1
def distT (gs : List (List Int)) (tt : Nat) : List Nat := distF gs tt ((gs.length + 1) * gs.length + 1) (List.replicate gs.length 0)
/-! The measure. -/
def wt (N o : Nat) : Nat := if o = 0 then N + 1 else o
def ms (N : Nat) : List Nat → Nat
  | [] => 0
  | o :: l => wt N o + ms N l
def cnt : List Nat → Nat
  | [] => 0
  | o :: l => (if o = 0 then 0 else 1) + cnt l
theorem cnt_le : ∀ l : List Nat, cnt l ≤ l.length
  | [] => Nat.le_refl _
  | o :: l => by have := cnt_le l; simp only [cnt, List.length_cons]; split <;> omega
theorem ms_set (N : Nat) : ∀ (l : List Nat) (x n : Nat) (h : x < l.length), ms N (l.set x n) + wt N l[x] = ms N l + wt N n
  | o :: l, 0, n, _ => by simp only [List.set_cons_zero, ms, List.getElem_cons_zero]; omega
  | o :: l, x + 1, n, h => by
    have := ms_set N l x n (by simpa using h)
    simp only [List.set_cons_succ, ms, List.getElem_cons_succ]; omega
theorem cnt_set : ∀ (l : List Nat) (x n : Nat) (h : x < l.length), cnt (l.set x n) + (if l[x] = 0 then 0 else 1) = cnt l + (if n = 0 then 0 else 1)
  | o :: l, 0, n, _ => by simp only [List.set_cons_zero, cnt, List.getElem_cons_zero]; omega
  | o :: l, x + 1, n, h => by
    have := cnt_set l x n (by simpa using h)
    simp only [List.set_cons_succ, cnt, List.getElem_cons_succ]; omega
theorem ms_rep (N : Nat) : ∀ k, ms N (List.replicate k 0) = k * (N + 1)
  | 0 => by simp [ms]
  | k + 1 => by rw [List.replicate_succ, ms, ms_rep N k, Nat.add_mul, Nat.one_mul]; simp [wt]; omega
theorem cnt_lt : ∀ (l : List Nat) (x : Nat) (h : x < l.length), l[x] = 0 → cnt l < l.length
  | o :: l, 0, _, e => by have := cnt_le l; simp only [List.getElem_cons_zero] at e; simp only [cnt, List.length_cons, e, if_true]; omega
  | o :: l, x + 1, h, e => by
    have := cnt_lt l x (by simpa using h) (by simpa using e)
    simp only [cnt, List.length_cons]; split <;> omega
theorem getD_lt {l : List Nat} {x : Nat} (h : x < l.length) : l.getD x 0 = l[x] := by rw [List.getD_eq_getElem?_getD, List.getElem?_eq_getElem h]; rfl
theorem getD_set_self' {l : List Nat} {x n : Nat} (h : x < l.length) : (l.set x n).getD x 0 = n := by rw [getD_lt (by rw [List.length_set]; exact h), List.getElem_set_self]
theorem getD_set_other {l : List Nat} {x y n : Nat} (h : x ≠ y) : (l.set x n).getD y 0 = l.getD y 0 := by rw [List.getD_eq_getElem?_getD, List.getD_eq_getElem?_getD, List.getElem?_set_ne h]
structure DOk (gs : List (List Int)) (tt : Nat) (out : List Nat) : Prop where
  len : out.length = gs.length
  le : ∀ x, out.getD x 0 ≤ cnt out
  sup : ∀ x, 1 < out.getD x 0 → ∃ y : Nat, (y : Int) ∈ gs.getD x [] ∧ tt < y ∧ 0 < out.getD y 0 ∧ out.getD y 0 < out.getD x 0
theorem DOk.max {gs : List (List Int)} {tt : Nat} {out : List Nat} (h : DOk gs tt out) (x : Nat) : out.getD x 0 ≤ gs.length := by
  have h1 := h.le x
  have h2 := cnt_le out
  have h3 := h.len
  omega
theorem DOk.start (gs : List (List Int)) (tt : Nat) : DOk gs tt (List.replicate gs.length 0) := by
  have e : ∀ x, (List.replicate gs.length 0).getD x 0 = 0 := fun x => by
    rw [List.getD_eq_getElem?_getD, List.getElem?_replicate]; split <;> rfl
  exact ⟨by simp, fun x => by rw [e]; exact Nat.zero_le _, fun x h => by rw [e] at h; omega⟩
theorem stepV_le {gs : List (List Int)} {tt : Nat} {out : List Nat} (h : DOk gs tt out) (y : Int) : stepV tt out y ≤ cnt out + 1 := by
  unfold stepV
  split
  · omega
  · split
    · have := h.le y.toNat; omega
    · omega
theorem relax_ok {gs : List (List Int)} {tt x : Nat} {s : List Nat × Bool} {y : Int} (h : DOk gs tt s.1) (hy : y ∈ gs.getD x []) (hx : x < gs.length) :
    DOk gs tt (relax tt x s y).1 ∧ ms gs.length (relax tt x s y).1 ≤ ms gs.length s.1 ∧ ((relax tt x s y).2 = s.2 ∧ (relax tt x s y).1 = s.1 ∨ (relax tt x s y).2 = true ∧ ms gs.length (relax tt x s y).1 < ms gs.length s.1) := by
  unfold relax
  split
  case isFalse => exact ⟨h, Nat.le_refl _, .inl ⟨rfl, rfl⟩⟩
  case isTrue hc =>
    obtain ⟨hn, ho⟩ := hc
    have hle := stepV_le h y
    obtain ⟨n, hnn⟩ : ∃ n, stepV tt s.1 y = n := ⟨_, rfl⟩
    rw [hnn] at hn ho hle ⊢
    have hxl : x < s.1.length := by rw [h.len]; exact hx
    have hm := ms_set gs.length s.1 x n hxl
    have hcs := cnt_set s.1 x n hxl
    have hlx := h.le x
    rw [getD_lt hxl] at ho hlx
    rw [if_neg (show ¬ n = 0 by omega)] at hcs
    have hlen := h.len
    have hcl := cnt_le s.1
    have hlt : ms gs.length (s.1.set x n) < ms gs.length s.1 := by
      unfold wt at hm
      rw [if_neg (show ¬ n = 0 by omega)] at hm
      rcases ho with e | e
      · have := cnt_lt s.1 x hxl e
        rw [if_pos e] at hm
        omega
      · rw [if_neg (show ¬ s.1[x] = 0 by omega)] at hm
        omega
    refine ⟨⟨by rw [List.length_set]; exact h.len, fun z => ?_, fun z hz => ?_⟩, Nat.le_of_lt hlt, .inr ⟨rfl, hlt⟩⟩
    · show (s.1.set x n).getD z 0 ≤ cnt (s.1.set x n)
      by_cases e : x = z
      · subst e
        rw [getD_set_self' hxl]
        rcases ho with e2 | e2
        · rw [if_pos e2] at hcs; omega
        · rw [if_neg (show ¬ s.1[x] = 0 by omega)] at hcs; omega
      · rw [getD_set_other e]
        have := h.le z
        rcases ho with e2 | e2
        · rw [if_pos e2] at hcs; omega
        · rw [if_neg (show ¬ s.1[x] = 0 by omega)] at hcs; omega
    · dsimp only at hz ⊢
      by_cases e : x = z
      · subst e
        rw [getD_set_self' hxl] at hz ⊢
        unfold stepV at hnn
        split at hnn
        · omega
        · split at hnn
          case isFalse => omega
          case isTrue q =>
            obtain ⟨q1, q2⟩ := q
            obtain ⟨v, rfl⟩ : ∃ v : Nat, y = v := ⟨y.toNat, by omega⟩
            rw [Int.toNat_natCast] at hnn q2
            have hvx : x ≠ v := by
              rintro rfl
              rw [getD_lt hxl] at hnn q2
              omega
            exact ⟨v, hy, by omega, by rw [getD_set_other hvx]; exact q2, by rw [getD_set_other hvx]; omega⟩
      · rw [getD_set_other e] at hz ⊢
        obtain ⟨v, h1, h2, h3, h4⟩ := h.sup z hz
        by_cases e2 : x = v
        · subst e2
          rw [getD_lt hxl] at h3 h4
          exact ⟨x, h1, h2, by rw [getD_set_self' hxl]; exact hn, by rw [getD_set_self' hxl]; omega⟩
        · exact ⟨v, h1, h2, by rw [getD_set_other e2]; exact h3, by rw [getD_set_other e2]; exact h4⟩
structure DLe (gs : List (List Int)) (tt : Nat) (s t : List Nat × Bool) : Prop where
  ok : DOk gs tt t.1
  le : ms gs.length t.1 ≤ ms gs.length s.1
  ch : t.2 = s.2 ∧ t.1 = s.1 ∨ t.2 = true ∧ ms gs.length t.1 < ms gs.length s.1
theorem DLe.refl {gs : List (List Int)} {tt : Nat} {s : List Nat × Bool} (h : DOk gs tt s.1) : DLe gs tt s s := ⟨h, Nat.le_refl _, .inl ⟨rfl, rfl⟩⟩
theorem DLe.trans {gs : List (List Int)} {tt : Nat} {s t u : List Nat × Bool} (h : DLe gs tt s t) (k : DLe gs tt t u) : DLe gs tt s u := by
  refine ⟨k.ok, Nat.le_trans k.le h.le, ?_⟩
  rcases h.ch with ⟨a1, a2⟩ | ⟨a1, a2⟩
  · rcases k.ch with ⟨b1, b2⟩ | ⟨b1, b2⟩
    · exact .inl ⟨b1.trans a1, b2.trans a2⟩
    · exact .inr ⟨b1, by rw [a2] at b2; exact b2⟩
  · rcases k.ch with ⟨b1, b2⟩ | ⟨b1, b2⟩
    · exact .inr ⟨b1.trans a1, by rw [b2]; exact a2⟩
    · exact .inr ⟨b1, Nat.lt_trans b2 a2⟩
theorem fold_ok {gs : List (List Int)} {tt x : Nat} (hx : x < gs.length) : ∀ (ys : List Int) (s : List Nat × Bool), (∀ y ∈ ys, y ∈ gs.getD x []) → DOk gs tt s.1 → DLe gs tt s (ys.foldl (relax tt x) s)
  | [], s, _, h => DLe.refl h
  | y :: ys, s, hy, h => by
    have r := relax_ok (s := s) h (hy y (List.mem_cons_self ..)) hx
    exact DLe.trans ⟨r.1, r.2.1, r.2.2⟩ (fold_ok hx ys _ (fun z hz => hy z (List.mem_cons_of_mem _ hz)) r.1)
theorem passX_ok {gs : List (List Int)} {tt x : Nat} (hx : x < gs.length) (s : List Nat × Bool) (h : DOk gs tt s.1) : DLe gs tt s (passX gs tt s x) := fold_ok hx _ s (fun y hy => hy) h
theorem passL_ok {gs : List (List Int)} {tt : Nat} : ∀ (l : List Nat) (s : List Nat × Bool), (∀ x ∈ l, x < gs.length) → DOk gs tt s.1 → DLe gs tt s (l.foldl (passX gs tt) s)
  | [], s, _, h => DLe.refl h
  | x :: l, s, hx, h => by
    have r := passX_ok (hx x (List.mem_cons_self ..)) s h
    exact r.trans (passL_ok l _ (fun z hz => hx z (List.mem_cons_of_mem _ hz)) r.ok)
theorem passD_ok {gs : List (List Int)} {tt : Nat} (s : List Nat × Bool) (h : DOk gs tt s.1) : DLe gs tt s (passD gs tt s) :=
  passL_ok _ s (fun x hx => by have := List.mem_range'_1.1 hx; omega) h
/-! At the end nothing can be relaxed. -/
theorem relax_still {tt x : Nat} {out : List Nat} {y : Int} (h : (relax tt x (out, false) y).2 = false) : relax tt x (out, false) y = (out, false) ∧ ¬ (0 < stepV tt out y ∧ (out.getD x 0 = 0 ∨ stepV tt out y < out.getD x 0)) := by
  unfold relax at h ⊢
  split at h
  · cases h
  · rename_i q; exact ⟨by rw [if_neg q], q⟩
theorem fold_still {gs : List (List Int)} {tt x : Nat} (hx : x < gs.length) : ∀ (ys : List Int) (out : List Nat), (∀ y ∈ ys, y ∈ gs.getD x []) → DOk gs tt out → (ys.foldl (relax tt x) (out, false)).2 = false → ys.foldl (relax tt x) (out, false) = (out, false) ∧ ∀ y ∈ ys, ¬ (0 < stepV tt out y ∧ (out.getD x 0 = 0 ∨ stepV tt out y < out.getD x 0))
  | [], out, _, h, _ => ⟨rfl, fun y hy => by cases hy⟩
  | y :: ys, out, hy, h, he => by
    rw [List.foldl_cons] at he ⊢
    have r := relax_ok (s := (out, false)) (tt := tt) h (hy y (List.mem_cons_self ..)) hx
    have k := fold_ok hx ys (relax tt x (out, false) y) (fun z hz => hy z (List.mem_cons_of_mem _ hz)) r.1
    have h1 : (relax tt x (out, false) y).2 = false := by
      rcases k.ch with ⟨a, _⟩ | ⟨a, _⟩
      · rw [he] at a; exact a.symm
      · rw [he] at a; cases a
    obtain ⟨e, e2⟩ := relax_still h1
    rw [e] at he ⊢
    obtain ⟨f1, f2⟩ := fold_still hx ys out (fun z hz => hy z (List.mem_cons_of_mem _ hz)) h he
    exact ⟨f1, fun z hz => by rcases List.mem_cons.1 hz with rfl | q; exact e2; exact f2 z q⟩
theorem passL_still {gs : List (List Int)} {tt : Nat} : ∀ (l : List Nat) (out : List Nat), (∀ x ∈ l, x < gs.length) → DOk gs tt out → (l.foldl (passX gs tt) (out, false)).2 = false → l.foldl (passX gs tt) (out, false) = (out, false) ∧ ∀ x ∈ l, ∀ y ∈ gs.getD x [], ¬ (0 < stepV tt out y ∧ (out.getD x 0 = 0 ∨ stepV tt out y < out.getD x 0))
  | [], out, _, h, _ => ⟨rfl, fun y hy => by cases hy⟩
  | x :: l, out, hx, h, he => by
    rw [List.foldl_cons] at he ⊢
    have r := passX_ok (tt := tt) (hx x (List.mem_cons_self ..)) (out, false) h
    have k := passL_ok l (passX gs tt (out, false) x) (fun z hz => hx z (List.mem_cons_of_mem _ hz)) r.ok
    have h1 : (passX gs tt (out, false) x).2 = false := by
      rcases k.ch with ⟨a, _⟩ | ⟨a, _⟩
      · rw [he] at a; exact a.symm
      · rw [he] at a; cases a
    obtain ⟨e, e2⟩ := fold_still (tt := tt) (hx x (List.mem_cons_self ..)) (gs.getD x []) out (fun y hy => hy) h h1
    have e' : passX gs tt (out, false) x = (out, false) := e
    rw [e'] at he ⊢
    obtain ⟨f1, f2⟩ := passL_still l out (fun z hz => hx z (List.mem_cons_of_mem _ hz)) h he
    exact ⟨f1, fun z hz => by rcases List.mem_cons.1 hz with rfl | q; exact e2; exact f2 z q⟩
structure DFin (gs : List (List Int)) (tt : Nat) (out : List Nat) : Prop where
  ok : DOk gs tt out
  fix : ∀ x, tt ≤ x → x < gs.length → ∀ y ∈ gs.getD x [], ¬ (0 < stepV tt out y ∧ (out.getD x 0 = 0 ∨ stepV tt out y < out.getD x 0))
theorem passD_fin {gs : List (List Int)} {tt : Nat} {out : List Nat} (h : DOk gs tt out) (he : (passD gs tt (out, false)).2 = false) : passD gs tt (out, false) = (out, false) ∧ DFin gs tt out := by
  obtain ⟨a, b⟩ := passL_still (List.range' tt (gs.length - tt)) out (fun x hx => by have := List.mem_range'_1.1 hx; omega) h he
  exact ⟨a, h, fun x h1 h2 => b x (List.mem_range'_1.2 ⟨h1, by omega⟩)⟩
theorem distF_fin {gs : List (List Int)} {tt : Nat} : ∀ (f : Nat) (out : List Nat), DOk gs tt out → ms gs.length out < f → DFin gs tt (distF gs tt f out)
  | 0, out, _, hf => by omega
  | f + 1, out, h, hf => by
    have k := passD_ok (out, false) h
    rw [distF]
    split
    · rename_i q
      refine distF_fin f _ k.ok ?_
      rcases k.ch with ⟨a, _⟩ | ⟨_, b⟩
      · rw [q] at a; cases a
      · have : ms gs.length (passD gs tt (out, false)).1 < ms gs.length out := b
        omega
    · rename_i q
      obtain ⟨a, b⟩ := passD_fin h (by simpa using q)
      rw [a]; exact b
theorem distT_fuel (gs : List (List Int)) (tt : Nat) : ms gs.length (List.replicate gs.length 0) < (gs.length + 1) * gs.length + 1 := by
  rw [ms_rep, Nat.mul_comm]; omega
theorem distT_fin (gs : List (List Int)) (tt : Nat) : DFin gs tt (distT gs tt) := distF_fin _ _ (DOk.start gs tt) (distT_fuel gs tt)
theorem DFin.next {gs : List (List Int)} {tt : Nat} {d : List Nat} (h : DFin gs tt d) {x : Nat} (h1 : tt ≤ x) (h2 : x < gs.length) (h3 : 1 < d.getD x 0) : ∃ y : Nat, (y : Int) ∈ gs.getD x [] ∧ tt < y ∧ d.getD y 0 + 1 = d.getD x 0 := by
  obtain ⟨y, hy, hty, hp, hl⟩ := h.ok.sup x h3
  refine ⟨y, hy, hty, ?_⟩
  have := h.fix x h1 h2 y hy
  have e : stepV tt d y = d.getD y 0 + 1 := by
    unfold stepV
    rw [if_neg (by omega), Int.toNat_natCast, if_pos ⟨by omega, hp⟩]
  rw [e] at this
  omega
/-! Circles. -/
def backB (d : List Nat) (first at' : Nat) (y : Int) : Bool := decide ((first : Int) < y) && decide (d.getD y.toNat 0 + 1 = d.getD at' 0)
def circF (gs : List (List Int)) (d : List Nat) (first : Nat) : Nat → Nat → List Int → List Int
  | 0, _, out => out
  | f + 1, at', out => if 1 < d.getD at' 0 then
      match (gs.getD at' []).find? (backB d first at') with
      | some y => circF gs d first f y.toNat (out ++ [y])
      | none => out
    else out
def circT (gs : List (List Int)) (first : Nat) : List Int :=
  if (distT gs first).getD first 0 = 0 then [] else circF gs (distT gs first) first gs.length first [(first : Int)]
def betterB (best c : List Int) : Bool := decide (0 < c.length) && (decide (best.length = 0) || decide (c.length < best.length))
def bestF (gs : List (List Int)) (best : List Int) (i : Nat) : List Int := if betterB best (circT gs i) = true then circT gs i else best
def bestT (gs : List (List Int)) : List Int := (List.range gs.length).foldl (bestF gs) []
def circleT (ts : Tr) (pn cn : St) : Except Int (List Int) :=
  match graphT ts pn cn with
  | .error e => .error e
  | .ok g => .ok (bestT g)
theorem find_back {gs : List (List Int)} {tt : Nat} {d : List Nat} (h : DFin gs tt d) {x : Nat} (h1 : tt ≤ x) (h2 : x < gs.length) (h3 : 1 < d.getD x 0) : ∃ y : Int, (gs.getD x []).find? (backB d tt x) = some y ∧ y ∈ gs.getD x [] ∧ (tt : Int) < y ∧ d.getD y.toNat 0 + 1 = d.getD x 0 := by
  obtain ⟨y, hy, hty, hp⟩ := h.next h1 h2 h3
  cases hz : (gs.getD x []).find? (backB d tt x) with
  | none =>
    have := List.find?_eq_none.1 hz y hy
    unfold backB at this
    rw [Int.toNat_natCast, decide_eq_true (show (tt : Int) < (y : Int) by omega), decide_eq_true hp] at this
    exact absurd rfl this
  | some z =>
    have q := List.find?_some hz
    simp [backB] at q
    exact ⟨z, rfl, List.mem_of_find?_eq_some hz, q.1, q.2⟩
end Go.Proofs.YtdjhnfopdlgliaaGreat

set_option linter.unusedVariables false
set_option linter.unusedSimpArgs false
namespace Go.Proofs.YtdjhnfopdlgliaaGreat
open Go.RowKit
open Classical
def EdgB (gs : List (List Int)) : Prop := ∀ i, ∀ y ∈ gs.getD i [], ∃ j : Nat, y = j ∧ j < gs.length
def WayP (gs : List (List Int)) : Nat → List Nat → Nat → Prop
  | a, [], t => (t : Int) ∈ gs.getD a []
  | a, b :: l, t => (b : Int) ∈ gs.getD a [] ∧ WayP gs b l t
def DOne (gs : List (List Int)) (tt : Nat) (out : List Nat) : Prop := out.length = gs.length ∧ ∀ x, out.getD x 0 = 1 → (tt : Int) ∈ gs.getD x []
theorem relax_one {gs : List (List Int)} {tt x : Nat} {s : List Nat × Bool} {y : Int} (h : DOne gs tt s.1) (hy : y ∈ gs.getD x []) (hx : x < gs.length) : DOne gs tt (relax tt x s y).1 := by
  unfold relax
  split
  case isFalse => exact h
  case isTrue hc =>
    refine ⟨by rw [List.length_set]; exact h.1, fun z hz => ?_⟩
    dsimp only at hz
    by_cases e : x = z
    · subst e
      rw [getD_set_self' (by rw [h.1]; exact hx)] at hz
      unfold stepV at hz
      split at hz
      case isTrue q => rw [← q]; exact hy
      case isFalse =>
        split at hz
        case isTrue q => obtain ⟨_, q⟩ := q; omega
        case isFalse => omega
    · rw [getD_set_other e] at hz
      exact h.2 z hz
theorem fold_one {gs : List (List Int)} {tt x : Nat} (hx : x < gs.length) : ∀ (ys : List Int) (s : List Nat × Bool), (∀ y ∈ ys, y ∈ gs.getD x []) → DOne gs tt s.1 → DOne gs tt (ys.foldl (relax tt x) s).1
  | [], s, _, h => h
  | y :: ys, s, hy, h => fold_one hx ys _ (fun z hz => hy z (List.mem_cons_of_mem _ hz)) (relax_one h (hy y (List.mem_cons_self ..)) hx)
theorem passL_one {gs : List (List Int)} {tt : Nat} : ∀ (l : List Nat) (s : List Nat × Bool), (∀ x ∈ l, x < gs.length) → DOne gs tt s.1 → DOne gs tt (l.foldl (passX gs tt) s).1
  | [], s, _, h => h
  | x :: l, s, hx, h => passL_one l _ (fun z hz => hx z (List.mem_cons_of_mem _ hz)) (fold_one (hx x (List.mem_cons_self ..)) _ s (fun y hy => hy) h)
theorem passD_one {gs : List (List Int)} {tt : Nat} {s : List Nat × Bool} (h : DOne gs tt s.1) : DOne gs tt (passD gs tt s).1 :=
  passL_one _ s (fun x hx => by have := List.mem_range'_1.1 hx; omega) h
theorem distF_one {gs : List (List Int)} {tt : Nat} : ∀ (f : Nat) (out : List Nat), DOne gs tt out → DOne gs tt (distF gs tt f out)
  | 0, out, h => h
  | f + 1, out, h => by
    have k := passD_one (s := (out, false)) h
    rw [distF]
    split
    · exact distF_one f _ k
    · exact k
theorem distT_one (gs : List (List Int)) (tt : Nat) : DOne gs tt (distT gs tt) := by
  refine distF_one _ _ ⟨by simp, fun x h => ?_⟩
  rw [List.getD_eq_getElem?_getD, List.getElem?_replicate] at h
  split at h <;> cases h
theorem circF_way {gs : List (List Int)} {tt : Nat} {d : List Nat} (hf : DFin gs tt d) (h1 : DOne gs tt d) (hB : EdgB gs) : ∀ (f at' : Nat) (out : List Int), tt ≤ at' → at' < gs.length → 0 < d.getD at' 0 → d.getD at' 0 ≤ f + 1 →
    ∃ ns : List Nat, circF gs d tt f at' out = out ++ ns.map (fun n : Nat => (n : Int)) ∧ (∀ z ∈ ns, tt < z ∧ z < gs.length) ∧ WayP gs at' ns tt
  | 0, at', out, _, _, h3, h4 => ⟨[], by simp [circF], fun z hz => (by cases hz), h1.2 at' (by omega)⟩
  | f + 1, at', out, ha, hb, h3, h4 => by
    rw [circF]
    split
    · rename_i q
      obtain ⟨y, e1, e2, e3, e4⟩ := find_back hf ha hb q
      rw [e1]
      dsimp only
      obtain ⟨j, rfl, hj⟩ := hB _ y e2
      rw [Int.toNat_natCast] at e4 ⊢
      obtain ⟨ns, n1, n2, n3⟩ := circF_way hf h1 hB f j (out ++ [(j : Int)]) (by omega) hj (by omega) (by omega)
      refine ⟨j :: ns, by rw [n1]; simp, fun z hz => ?_, e2, n3⟩
      rcases List.mem_cons.1 hz with rfl | hz
      · exact ⟨by omega, hj⟩
      · exact n2 z hz
    · exact ⟨[], by simp, fun z hz => (by cases hz), h1.2 at' (by omega)⟩
theorem circT_way {gs : List (List Int)} (hB : EdgB gs) {tt : Nat} (hlt : tt < gs.length) (hne : circT gs tt ≠ []) :
    ∃ ns : List Nat, circT gs tt = (tt :: ns).map (fun n : Nat => (n : Int)) ∧ (∀ z ∈ ns, tt < z ∧ z < gs.length) ∧ WayP gs tt ns tt := by
  unfold circT at hne ⊢
  split at hne
  · exact absurd rfl hne
  rename_i q
  rw [if_neg q]
  have fin := distT_fin gs tt
  obtain ⟨ns, n1, n2, n3⟩ := circF_way fin (distT_one gs tt) hB gs.length tt [(tt : Int)] (Nat.le_refl _) hlt (by omega) (by have := fin.ok.max tt; omega)
  exact ⟨ns, by rw [n1]; simp, n2, n3⟩
theorem circT_ne {gs : List (List Int)} {tt : Nat} (h : (distT gs tt).getD tt 0 ≠ 0) : circT gs tt ≠ [] := by
  unfold circT
  rw [if_neg h]
  have : ∀ (f at' : Nat) (out : List Int), out ≠ [] → circF gs (distT gs tt) tt f at' out ≠ [] := by
    intro f
    induction f with
    | zero => intro _ _ h; exact h
    | succ f ih =>
      intro at' out h
      rw [circF]
      split
      · split
        · exact ih _ _ (by simp)
        · exact h
      · exact h
  exact this _ _ _ (by simp)
theorem best_fold {gs : List (List Int)} : ∀ (l : List Nat) (b : List Int), (l.foldl (bestF gs) b = [] → b = [] ∧ ∀ i ∈ l, circT gs i = []) ∧ (l.foldl (bestF gs) b = b ∨ ∃ i ∈ l, l.foldl (bestF gs) b = circT gs i ∧ circT gs i ≠ [])
  | [], b => ⟨fun h => ⟨h, fun i hi => by cases hi⟩, .inl rfl⟩
  | i :: l, b => by
    obtain ⟨h1, h2⟩ := best_fold (gs := gs) l (bestF gs b i)
    rw [List.foldl_cons]
    constructor
    · intro h
      obtain ⟨h3, h4⟩ := h1 h
      have key : b = [] ∧ circT gs i = [] := by
        unfold bestF at h3
        split at h3
        · rename_i q
          unfold betterB at q
          rw [h3] at q
          simp at q
        · rename_i q
          refine ⟨h3, ?_⟩
          rw [h3] at q
          unfold betterB at q
          cases hc : circT gs i with
          | nil => rfl
          | cons x y => rw [hc] at q; simp at q
      exact ⟨key.1, fun j hj => by rcases List.mem_cons.1 hj with rfl | hj; exact key.2; exact h4 j hj⟩
    · rcases h2 with h2 | ⟨j, hj, h3, h4⟩
      · rw [h2]
        unfold bestF
        split
        · rename_i q
          right
          refine ⟨i, List.mem_cons_self .., rfl, fun e => ?_⟩
          unfold betterB at q
          rw [e] at q
          simp at q
        · exact .inl rfl
      · exact .inr ⟨j, List.mem_cons_of_mem _ hj, h3, h4⟩
theorem best_none {gs : List (List Int)} (h : bestT gs = []) : ∀ i, i < gs.length → circT gs i = [] := fun i hi => ((best_fold _ _).1 h).2 i (List.mem_range.2 hi)
theorem best_some {gs : List (List Int)} (h : bestT gs ≠ []) : ∃ i, i < gs.length ∧ bestT gs = circT gs i ∧ circT gs i ≠ [] := by
  rcases (best_fold (gs := gs) (List.range gs.length) []).2 with q | ⟨i, hi, q⟩
  · exact absurd q h
  · exact ⟨i, List.mem_range.1 hi, q⟩
theorem least_mem : ∀ {S : List Nat}, S ≠ [] → ∃ t ∈ S, ∀ x ∈ S, t ≤ x
  | [], h => absurd rfl h
  | [a], _ => ⟨a, List.mem_cons_self .., fun x hx => by rw [List.mem_singleton.1 hx]; exact Nat.le_refl _⟩
  | a :: b :: l, _ => by
    obtain ⟨t, h1, h2⟩ := least_mem (S := b :: l) (by simp)
    by_cases h : a ≤ t
    · exact ⟨a, List.mem_cons_self .., fun x hx => by rcases List.mem_cons.1 hx with rfl | hx; exact Nat.le_refl _; exact Nat.le_trans h (h2 x hx)⟩
    · exact ⟨t, List.mem_cons_of_mem _ h1, fun x hx => by rcases List.mem_cons.1 hx with rfl | hx; omega; exact h2 x hx⟩
theorem closed_circ {gs : List (List Int)} (hB : EdgB gs) : ∀ (n : Nat) (S : List Nat), S.length ≤ n → S ≠ [] → (∀ x ∈ S, x < gs.length ∧ ∃ y ∈ S, ((y : Nat) : Int) ∈ gs.getD x []) → ∃ tt, tt < gs.length ∧ (distT gs tt).getD tt 0 ≠ 0
  | 0, S, h, hn, _ => by cases S with
    | nil => exact absurd rfl hn
    | cons a l => simp at h
  | n + 1, S, h, hn, hc => by
    obtain ⟨tt, ht, hmin⟩ := least_mem hn
    have hlt := (hc tt ht).1
    by_cases hd : (distT gs tt).getD tt 0 = 0
    · have fin := distT_fin gs tt
      have key : ∀ x ∈ S, (distT gs tt).getD x 0 = 0 → ∃ y ∈ S.filter (fun x => decide ((distT gs tt).getD x 0 = 0) && decide (x ≠ tt)), ((y : Nat) : Int) ∈ gs.getD x [] := by
        intro x hx h0
        obtain ⟨hxl, y, hy, he⟩ := hc x hx
        have q := fin.fix x (hmin x hx) hxl y he
        have hyt : y ≠ tt := by
          rintro rfl
          refine q ⟨?_, .inl h0⟩
          unfold stepV; rw [if_pos rfl]; decide
        have hy0 : (distT gs tt).getD y 0 = 0 := by
          by_cases e : (distT gs tt).getD y 0 = 0
          · exact e
          · exfalso
            refine q ⟨?_, .inl h0⟩
            have := hmin y hy
            unfold stepV
            rw [if_neg (by omega), Int.toNat_natCast, if_pos ⟨by omega, by omega⟩]
            omega
        exact ⟨y, List.mem_filter.2 ⟨hy, by rw [hy0]; simp [hyt]⟩, he⟩
      refine closed_circ hB n (S.filter (fun x => decide ((distT gs tt).getD x 0 = 0) && decide (x ≠ tt))) ?_ ?_ ?_
      · have : (S.filter (fun x => decide ((distT gs tt).getD x 0 = 0) && decide (x ≠ tt))).length < S.length := by
          rw [List.length_filter_lt_length_iff_exists]
          exact ⟨tt, ht, by simp⟩
        omega
      · obtain ⟨y, hy, _⟩ := key tt ht hd
        intro e
        rw [e] at hy
        cases hy
      · intro x hx
        obtain ⟨h1, h2⟩ := List.mem_filter.1 hx
        refine ⟨(hc x h1).1, key x h1 ?_⟩
        simp at h2
        exact h2.1
    · exact ⟨tt, hlt, hd⟩
/-! The order. -/
def cntB : List Bool → Nat
  | [] => 0
  | b :: l => (if b = true then 1 else 0) + cntB l
theorem cntB_le : ∀ l : List Bool, cntB l ≤ l.length
  | [] => Nat.le_refl _
  | b :: l => by have := cntB_le l; simp only [cntB, List.length_cons]; split <;> omega
theorem cntB_set : ∀ (l : List Bool) (i : Nat), i < l.length → l.getD i false = false → cntB (l.set i true) = cntB l + 1
  | b :: l, 0, _, h => by
    have hb : b = false := h
    subst hb
    simp [cntB]
    omega
  | b :: l, i + 1, hi, h => by
    have := cntB_set l i (by simpa using hi) (by simpa using h)
    simp only [List.set_cons_succ, cntB, this]
    omega
theorem cntB_all : ∀ l : List Bool, (∀ i, i < l.length → l.getD i false = true) → cntB l = l.length
  | [], _ => rfl
  | b :: l, h => by
    have h0 : b = true := h 0 (by simp)
    have := cntB_all l (fun i hi => h (i + 1) (by simpa using hi))
    simp only [cntB, List.length_cons, this, h0, if_true]
    omega
theorem cntB_full : ∀ l : List Bool, cntB l = l.length → ∀ i, i < l.length → l.getD i false = true
  | [], _, i, hi => by simp at hi
  | b :: l, h, i, hi => by
    have h1 := cntB_le l
    simp only [cntB, List.length_cons] at h
    cases b with
    | false => rw [if_neg (by decide)] at h; omega
    | true =>
      rw [if_pos rfl] at h
      cases i with
      | zero => rfl
      | succ i => exact cntB_full l (by omega) i (by simpa using hi)
structure OInv (gs : List (List Int)) (done : List Bool) (out : List Int) : Prop where
  len : done.length = gs.length
  cnt : cntB done = out.length
  mem : ∀ i : Nat, i < gs.length → (done.getD i false = true ↔ (i : Int) ∈ out)
  nat : ∀ z ∈ out, ∃ j : Nat, z = j ∧ j < gs.length
  nd : out.Nodup
  aft : ∀ i (hi : i < out.length), ∀ y ∈ gs.getD out[i].toNat [], ∃ (j : Nat) (hj : j < out.length), j < i ∧ out[j] = y
theorem getD_setB {l : List Bool} {i j : Nat} (hi : i < l.length) : (l.set i true).getD j false = if j = i then true else l.getD j false := by
  rw [List.getD_eq_getElem?_getD, List.getD_eq_getElem?_getD]
  split
  · rename_i e; subst e; rw [List.getElem?_set_self hi]; rfl
  · rename_i e; rw [List.getElem?_set_ne (fun q => e q.symm)]
theorem OInv.step {gs : List (List Int)} {done : List Bool} {out : List Int} (h : OInv gs done out) (hB : EdgB gs) {i : Nat} (hi : i < gs.length) (hr : readyI gs done i = true) : OInv gs (done.set i true) (out ++ [(i : Int)]) := by
  have hid : i < done.length := by rw [h.len]; exact hi
  unfold readyI at hr
  rw [Bool.and_eq_true, Bool.not_eq_true', Bool.not_eq_true', List.any_eq_false] at hr
  obtain ⟨h1, h2⟩ := hr
  have hni : (i : Int) ∉ out := fun q => by rw [(h.mem i hi).2 q] at h1; cases h1
  refine ⟨by rw [List.length_set]; exact h.len, by rw [cntB_set _ _ hid h1, h.cnt, List.length_append]; rfl, fun j hj => ?_, fun z hz => ?_, ?_, fun k hk y hy => ?_⟩
  · rw [getD_setB hid, List.mem_append, List.mem_singleton]
    by_cases e : j = i
    · subst e; simp
    · rw [if_neg e, h.mem j hj]
      constructor
      · exact .inl
      · rintro (q | q)
        · exact q
        · omega
  · rcases List.mem_append.1 hz with q | q
    · exact h.nat z q
    · exact ⟨i, List.mem_singleton.1 q, hi⟩
  · rw [List.nodup_append]
    refine ⟨h.nd, by simp, fun a ha b hb e => ?_⟩
    rw [List.mem_singleton.1 hb] at e
    exact hni (e ▸ ha)
  · rw [List.length_append] at hk
    by_cases e : k < out.length
    · rw [List.getElem_append_left e] at hy
      obtain ⟨j, hj, q1, q2⟩ := h.aft k e y hy
      exact ⟨j, by rw [List.length_append]; omega, q1, by rw [List.getElem_append_left hj]; exact q2⟩
    · have ek : k = out.length := by simp at hk; omega
      subst ek
      rw [List.getElem_append_right (Nat.le_refl _)] at hy
      simp only [Nat.sub_self, List.getElem_cons_zero, Int.toNat_natCast] at hy
      obtain ⟨m, rfl, hm⟩ := hB i y hy
      have q := h2 _ hy
      unfold notDone at q
      rw [Int.toNat_natCast, Bool.not_eq_true, Bool.not_eq_false'] at q
      obtain ⟨j, hj, e⟩ := List.getElem_of_mem ((h.mem m hm).1 q)
      exact ⟨j, by rw [List.length_append]; omega, hj, by rw [List.getElem_append_left hj]; exact e⟩
structure OFin (gs : List (List Int)) (out : List Int) : Prop where
  len : out.length = gs.length
  all : ∀ i : Nat, i < gs.length → (i : Int) ∈ out
  nat : ∀ z ∈ out, ∃ j : Nat, z = j ∧ j < gs.length
  nd : out.Nodup
  aft : ∀ i (hi : i < out.length), ∀ y ∈ gs.getD out[i].toNat [], ∃ (j : Nat) (hj : j < out.length), j < i ∧ out[j] = y
theorem orderF_fin {gs : List (List Int)} (hB : EdgB gs) : ∀ (f : Nat) (done : List Bool) (out : List Int), OInv gs done out → out.length + f = gs.length →
    (∃ o, orderF gs f done out = .ok o ∧ OFin gs o) ∨ (orderF gs f done out = .error 10 ∧ ∃ S : List Nat, S ≠ [] ∧ ∀ x ∈ S, x < gs.length ∧ ∃ y ∈ S, ((y : Nat) : Int) ∈ gs.getD x [])
  | 0, done, out, h, hl => by
    left
    refine ⟨out, rfl, by omega, fun i hi => ?_, h.nat, h.nd, h.aft⟩
    exact (h.mem i hi).1 (cntB_full done (by rw [h.cnt, h.len]; omega) i (by rw [h.len]; exact hi))
  | f + 1, done, out, h, hl => by
    rw [orderF]
    cases hz : nextI gs done with
    | some i =>
      dsimp only
      have hi : i < gs.length := List.mem_range.1 (List.mem_of_find?_eq_some hz)
      exact orderF_fin hB f _ _ (h.step hB hi (List.find?_some hz)) (by rw [List.length_append]; simp; omega)
    | none =>
      right
      refine ⟨rfl, (List.range gs.length).filter (fun x => !(done.getD x false)), fun e => ?_, fun x hx => ?_⟩
      · have : cntB done = done.length := cntB_all done fun i hi => by
          rw [List.filter_eq_nil_iff] at e
          have := e i (List.mem_range.2 (by rw [← h.len]; exact hi))
          simpa using this
        have h1 := h.cnt
        have h2 := h.len
        omega
      · obtain ⟨h1, h2⟩ := List.mem_filter.1 hx
        have hxl := List.mem_range.1 h1
        refine ⟨hxl, ?_⟩
        have q := List.find?_eq_none.1 hz x h1
        unfold readyI at q
        rw [h2, Bool.true_and, Bool.not_eq_true, Bool.not_eq_false', List.any_eq_true] at q
        obtain ⟨y, hy, q⟩ := q
        obtain ⟨m, rfl, hm⟩ := hB x y hy
        unfold notDone at q
        rw [Int.toNat_natCast] at q
        exact ⟨m, List.mem_filter.2 ⟨List.mem_range.2 hm, q⟩, hy⟩
theorem orderG_fin {gs : List (List Int)} (hB : EdgB gs) : (∃ o, orderF gs gs.length (List.replicate gs.length false) [] = .ok o ∧ OFin gs o) ∨ (orderF gs gs.length (List.replicate gs.length false) [] = .error 10 ∧ ∃ S : List Nat, S ≠ [] ∧ ∀ x ∈ S, x < gs.length ∧ ∃ y ∈ S, ((y : Nat) : Int) ∈ gs.getD x []) := by
  have e : ∀ i, (List.replicate gs.length false).getD i false = false := fun i => by
    rw [List.getD_eq_getElem?_getD, List.getElem?_replicate]; split <;> rfl
  have e2 : ∀ n, cntB (List.replicate n false) = 0 := fun n => by
    induction n with
    | zero => rfl
    | succ n ih => rw [List.replicate_succ, cntB, ih]; rfl
  refine orderF_fin hB _ _ _ ⟨by simp, by rw [e2]; rfl, fun i hi => by rw [e]; simp, fun z hz => (by cases hz), List.nodup_nil, fun i hi => ?_⟩ (by simp)
  exact absurd hi (by simp)
theorem OFin.way {gs : List (List Int)} {o : List Int} (h : OFin gs o) (hB : EdgB gs) : ∀ (ns : List Nat) (a t i : Nat) (hi : i < o.length), o[i] = (a : Int) → WayP gs a ns t → ∃ (j : Nat) (hj : j < o.length), j < i ∧ o[j] = (t : Int)
  | [], a, t, i, hi, e, hw => h.aft i hi t (by rw [e, Int.toNat_natCast]; exact hw)
  | b :: ns, a, t, i, hi, e, hw => by
    obtain ⟨j, hj, q1, q2⟩ := h.aft i hi b (by rw [e, Int.toNat_natCast]; exact hw.1)
    obtain ⟨k, hk, q3, q4⟩ := h.way hB ns b t j hj q2 hw.2
    exact ⟨k, hk, by omega, q4⟩
theorem order_circ {gs : List (List Int)} (hB : EdgB gs) : (bestT gs = [] ∧ ∃ o, orderF gs gs.length (List.replicate gs.length false) [] = .ok o ∧ OFin gs o) ∨
    (∃ (tt : Nat) (ns : List Nat), orderF gs gs.length (List.replicate gs.length false) [] = .error 10 ∧ bestT gs = (tt :: ns).map (fun n : Nat => (n : Int)) ∧ tt < gs.length ∧ (∀ z ∈ ns, tt < z ∧ z < gs.length) ∧ WayP gs tt ns tt) := by
  rcases orderG_fin hB with ⟨o, h1, h2⟩ | ⟨h1, S, h2, h3⟩
  · left
    refine ⟨?_, o, h1, h2⟩
    by_cases hb : bestT gs = []
    · exact hb
    · exfalso
      obtain ⟨i, hi, q1, q2⟩ := best_some hb
      obtain ⟨ns, _, _, hw⟩ := circT_way hB hi q2
      obtain ⟨k, hk, e⟩ := List.getElem_of_mem (h2.all i hi)
      obtain ⟨j, hj, j1, j2⟩ := h2.way hB ns i i k hk e hw
      exact (List.pairwise_iff_getElem.1 h2.nd) j k hj hk j1 (by rw [j2, e])
  · right
    obtain ⟨tt, t1, t2⟩ := closed_circ hB S.length S (Nat.le_refl _) h2 h3
    have hb : bestT gs ≠ [] := fun e => circT_ne t2 (best_none e tt t1)
    obtain ⟨i, hi, q1, q2⟩ := best_some hb
    obtain ⟨ns, n1, n2, n3⟩ := circT_way hB hi q2
    exact ⟨i, ns, h1, by rw [q1]; exact n1, hi, n2, n3⟩
/-! The graph of the links. -/
theorem mem_compactE {zs : List Int} {y : Int} : y ∈ Lib.compact zs ↔ y ∈ zs := by
  unfold Lib.compact Lib.compactUpTo
  rw [List.mem_map]
  have hg : ∀ j (hj : j < zs.length), zs.toArray[j]! = zs[j] := fun j hj => by simp [getElem!_pos, hj]
  constructor
  · rintro ⟨j, hj, rfl⟩
    have hl := List.mem_range.1 (List.mem_filter.1 hj).1
    rw [hg j hl]
    exact List.getElem_mem hl
  · intro h
    obtain ⟨j, hj, rfl⟩ := List.getElem_of_mem h
    have key : ∀ j, (hj : j < zs.length) → ∃ a, a ∈ List.filter (Lib.keeps zs.toArray) (List.range zs.length) ∧ zs.toArray[a]! = zs[j] := by
      intro j
      induction j with
      | zero => intro hj; exact ⟨0, List.mem_filter.2 ⟨List.mem_range.2 hj, Lib.keeps_lt_one _ 0 (by omega)⟩, hg 0 hj⟩
      | succ j ih =>
        intro hj
        by_cases e : zs.toArray[j + 1]! = zs.toArray[j + 1 - 1]!
        · obtain ⟨a, h1, h2⟩ := ih (by omega)
          refine ⟨a, h1, ?_⟩
          rw [h2, ← hg j (by omega), ← hg (j + 1) hj]
          exact e.symm
        · exact ⟨j + 1, List.mem_filter.2 ⟨List.mem_range.2 hj, Lib.keeps_pos e⟩, hg _ hj⟩
    exact key j hj
theorem mem_normG {g : List Int} {y : Int} : y ∈ normG g ↔ y ∈ g := by
  unfold normG srt
  rw [mem_compactE]
  exact (List.mergeSort_perm g _).mem_iff
theorem snoc_ind {α : Type} {P : List α → Prop} (h0 : P []) (hs : ∀ l a, P l → P (l ++ [a])) (l : List α) : P l := by
  have : ∀ m : List α, P m.reverse := fun m => by
    induction m with
    | nil => exact h0
    | cons a m ih => rw [List.reverse_cons]; exact hs _ _ ih
  have q := this l.reverse
  rwa [List.reverse_reverse] at q
theorem rawG_mem (n : Nat) : ∀ (ls : List Lnk), (∀ l ∈ ls, ∃ k : Nat, l.node = k ∧ k < n) → (rawG n ls).length = n ∧ ∀ (i : Nat) (y : Int), y ∈ (rawG n ls).getD i [] ↔ ∃ l ∈ ls, l.node = i ∧ l.prov = y := by
  intro ls
  refine snoc_ind (P := fun ls : List Lnk => (∀ l ∈ ls, ∃ k : Nat, l.node = k ∧ k < n) → (rawG n ls).length = n ∧ ∀ (i : Nat) (y : Int), y ∈ (rawG n ls).getD i [] ↔ ∃ l ∈ ls, l.node = i ∧ l.prov = y) ?_ ?_ ls
  · intro _
    refine ⟨by simp [rawG], fun i y => ?_⟩
    have : (rawG n []).getD i [] = [] := by
      unfold rawG
      rw [List.foldl_nil, List.getD_eq_getElem?_getD, List.getElem?_replicate]
      split <;> rfl
    rw [this]
    simp
  · intro ls l ih hN
    obtain ⟨h1, h2⟩ := ih (fun x hx => hN x (List.mem_append_left _ hx))
    obtain ⟨k, hk, hkn⟩ := hN l (List.mem_append_right _ (List.mem_singleton.2 rfl))
    rw [rawG_snoc]
    refine ⟨by rw [addE_len]; exact h1, fun i y => ?_⟩
    unfold addE
    rw [hk, Int.toNat_natCast, List.getD_eq_getElem?_getD]
    by_cases e : k = i
    · subst e
      rw [List.getElem?_set_self (by rw [h1]; exact hkn), Option.getD_some, List.mem_append, List.mem_singleton, h2]
      constructor
      · rintro (⟨x, hx, q⟩ | q)
        · exact ⟨x, List.mem_append_left _ hx, q⟩
        · exact ⟨l, List.mem_append_right _ (List.mem_singleton.2 rfl), hk, q.symm⟩
      · rintro ⟨x, hx, q1, q2⟩
        rcases List.mem_append.1 hx with hx | hx
        · exact .inl ⟨x, hx, q1, q2⟩
        · rw [List.mem_singleton.1 hx] at q2; exact .inr q2.symm
    · rw [List.getElem?_set_ne e, ← List.getD_eq_getElem?_getD, h2]
      constructor
      · rintro ⟨x, hx, q⟩; exact ⟨x, List.mem_append_left _ hx, q⟩
      · rintro ⟨x, hx, q1, q2⟩
        rcases List.mem_append.1 hx with hx | hx
        · exact ⟨x, hx, q1, q2⟩
        · rw [List.mem_singleton.1 hx, hk] at q1; omega
theorem graph_mem {n : Nat} {ls : List Lnk} (h : ∀ l ∈ ls, ∃ k : Nat, l.node = k ∧ k < n) : ((rawG n ls).map normG).length = n ∧ ∀ (i : Nat) (y : Int), y ∈ ((rawG n ls).map normG).getD i [] ↔ ∃ l ∈ ls, l.node = i ∧ l.prov = y := by
  obtain ⟨h1, h2⟩ := rawG_mem n ls h
  refine ⟨by rw [List.length_map]; exact h1, fun i y => ?_⟩
  rw [← h2, List.getD_eq_getElem?_getD, List.getD_eq_getElem?_getD, List.getElem?_map]
  cases (rawG n ls)[i]? with
  | none => simp
  | some g => rw [Option.map_some, Option.getD_some, Option.getD_some, mem_normG]
/-! Where links lead. -/
theorem ofF_mem {ts : Tr} {node : Int} {pn cn : St} : ∀ (f : Nat) (l : List Int) (out ls : List Lnk), ofF ts node pn cn f l out = .ok ls → ∀ x ∈ ls, x ∈ out ∨ (x.node = node ∧ ∃ k : Nat, x.prov = k ∧ k < ts.length)
  | 0, l, out, ls, h, x, hx => by rw [ofF] at h; injection h with h; subst h; exact .inl hx
  | f + 1, [], out, ls, h, x, hx => by rw [ofF] at h; injection h with h; subst h; exact .inl hx
  | f + 1, p :: l, out, ls, h, x, hx => by
    rw [ofF] at h
    cases hp : phan ts p with
    | none => rw [hp] at h; cases h
    | some k =>
      rw [hp] at h
      dsimp only at h
      cases ha : argsN ts k cn with
      | none => rw [ha] at h; cases h
      | some n =>
        rw [ha] at h
        dsimp only at h
        split at h
        · cases h
        · rcases ofF_mem f _ _ ls h x hx with q | q
          · rcases List.mem_append.1 q with q | q
            · exact .inl q
            · rw [List.mem_singleton.1 q]
              exact .inr ⟨rfl, k, rfl, phan_lt hp⟩
          · exact .inr q
theorem ofT_mem {ts : Tr} {n : Nat} {pn cn : St} {ls : List Lnk} (h : ofT ts n pn cn = .ok ls) : ∀ x ∈ ls, x.node = n ∧ ∃ k : Nat, x.prov = k ∧ k < ts.length := by
  intro x hx
  unfold ofT at h
  split at h
  · injection h with h; subst h; cases hx
  · split at h
    · injection h with h; subst h; cases hx
    · split at h
      · rcases ofF_mem _ _ _ ls h x hx with q | q
        · cases q
        · exact q
      · cases h
theorem allT_mem {ts : Tr} {pn cn : St} : ∀ (K : Nat) (ls : List Lnk), allT ts pn cn K = .ok ls → ∀ x ∈ ls, (∃ n : Nat, x.node = n ∧ n < K) ∧ ∃ k : Nat, x.prov = k ∧ k < ts.length
  | 0, ls, h, x, hx => by rw [allT] at h; injection h with h; subst h; cases hx
  | K + 1, ls, h, x, hx => by
    rw [allT] at h
    cases ha : allT ts pn cn K with
    | error e => rw [ha] at h; cases h
    | ok out =>
      rw [ha] at h
      dsimp only at h
      cases ho : ofT ts K pn cn with
      | error e => rw [ho] at h; cases h
      | ok l2 =>
        rw [ho] at h
        injection h with h
        subst h
        rcases List.mem_append.1 hx with q | q
        · obtain ⟨⟨n, e, hn⟩, q2⟩ := allT_mem K out ha x q
          exact ⟨⟨n, e, by omega⟩, q2⟩
        · obtain ⟨e, q2⟩ := ofT_mem ho x q
          exact ⟨⟨K, e, by omega⟩, q2⟩
/-! The links of one node. -/
/-! The value again. -/
theorem valP_mem {ps : List Prp} (hn : (ps.map Prp.name).Nodup) {p : Prp} (hp : p ∈ ps) : valP ps p.name = some p.val := by
  induction ps with
  | nil => cases hp
  | cons x ps ih =>
    rw [List.map_cons, List.nodup_cons] at hn
    unfold valP at ih ⊢
    rw [List.find?_cons]
    rcases List.mem_cons.1 hp with rfl | hp
    · simp
    · have hx : x.name ≠ p.name := fun e => hn.1 (e ▸ List.mem_map_of_mem hp)
      rw [show (x.name == p.name) = false by rw [beq_eq_false_iff_ne]; exact hx]
      exact ih hn.2 hp
theorem vt_nodup {ts : Tr} (h : VT ts) {k : Nat} (hk : k < ts.length) : ((nd ts k).props.map Prp.name).Nodup := by
  have q := (h.prp k hk).asc
  rw [List.Nodup, List.pairwise_map]
  exact q.imp (fun h => vlt_ne h)
/-! Consumers. -/
/-! Names of properties. -/
/-! limits. -/
def limB (ts : Tr) : Bool := decide (ts.length = 0) || decide (120 < ts.length) || ts.any bigN
theorem limits_any (ts : Tr) (a : Option Addr) (cap : Nat) (w : World) (h : SlOf 3 RNod w a ts) (hf : ts.length ≤ 1000000) :
    Calls Tryz.prog 93 #[.agg #[.slice a ts.length cap]] w (Grows w (.bool (limB ts))) := by
  have H := Lib.hid h
  obtain ⟨v, hv⟩ : ∃ v, limB ts = v := ⟨_, rfl⟩
  have HV := Lib.hid hv
  rw [hv]
  clear h hv
  go_enter Tryz.func93, Tryz.ntmps93
  by_cases l1 : ts.length = 0
  · have V : Hid (v = true) := Lib.hid (by rw [← HV.out]; unfold limB; rw [l1]; rfl)
    have hb : decide (ts.length < 1) = true := by rw [l1]; rfl
    have hb2 : ts.length < 1 := by omega
    go_wp2_with fail
    go_ret
    exact ⟨ret_bool (by rw [V.out]), (Gr.refl _).alloc _⟩
  by_cases l2 : 120 < ts.length
  · have V : Hid (v = true) := Lib.hid (by rw [← HV.out]; unfold limB; rw [show decide (120 < ts.length) = true by simpa using l2]; simp)
    have hb : decide (ts.length < 1) = false := by rw [decide_eq_false_iff_not]; omega
    have hb2 : (120 : Int) < ts.length := by omega
    go_wp2_with fail
    go_ret
    exact ⟨ret_bool (by rw [V.out]), (Gr.refl _).alloc _⟩
  have VE : Hid (v = ts.any bigN) := Lib.hid (by rw [← HV.out]; unfold limB; rw [show decide (120 < ts.length) = false by simpa using l2, show decide (ts.length = 0) = false by simpa using l1]; rfl)
  have l3 : 1 ≤ ts.length := by omega
  have l4 : ts.length ≤ 120 := by omega
  clear l1 l2
  go_wp2_with fail
  go_loopw [20] (fun i wr => ∃ k : Nat, k ≤ ts.length ∧ i = .int .i64 k ∧ (∀ j (hj : j < k) (hjl : j < ts.length), bigN ts[j] = false) ∧ Gr w wr) (fun i _ => ts.length - (intOf i).toNat)
  case atStart => exact ⟨0, Nat.zero_le _, rfl, fun j h => by omega, (Gr.refl _).alloc _⟩
  case round =>
    obtain ⟨k, hk, rfl, ha, hg⟩ := hrel
    have HG := Lib.hid hg
    have HA := Lib.hid ha
    clear hg ha
    by_cases hlt : k < ts.length
    · obtain ⟨b, o, pa, pc, rfl, c0, c1, c2, hps, hpf, hw, hnl⟩ := nods_at (H.out.gr RNod.mono HG.out) k hlt
      obtain ⟨n, hn⟩ : ∃ n, ts[k] = n := ⟨_, rfl⟩
      have HN := Lib.hid hn
      rw [hn] at c0 c1 c2 hps
      have HPS := Lib.hid hps
      have hh := has_of_cell c0
      have BT : Hid (bigN n = true → v = true) := Lib.hid (fun q => by rw [VE.out, List.any_eq_true]; exact ⟨n, by rw [← hn]; exact List.getElem_mem hlt, q⟩)
      clear hn hps hpf hw hnl
      by_cases n24 : 24 < n.props.length
      · have V : Hid (v = true) := Lib.hid (BT.out (by unfold bigN; rw [show decide (24 < n.props.length) = true by simpa using n24]; rfl))
        have nb : (24 : Int) < n.props.length := by omega
        go_wp2_with fail
        go_ret
        exact ⟨ret_bool (by rw [V.out]), HG.out.alloc _⟩
      have n24' : n.props.length ≤ 24 := by omega
      clear n24
      go_wp2_with fail
      obtain ⟨w5, hw5⟩ : ∃ wo, wo = wr := ⟨_, rfl⟩
      rw [← hw5] at HG HPS
      go_loopw [31] (fun i wr => ∃ m : Nat, m ≤ n.props.length ∧ i = .int .i64 m ∧ (∀ j (hj : j < m) (hjl : j < n.props.length), n.props[j].val.length ≤ 256) ∧ Gr w5 wr) (fun i _ => n.props.length - (intOf i).toNat)
      case atStart => exact ⟨0, Nat.zero_le _, rfl, fun j h => by omega, by rw [hw5]; exact (Gr.refl _).alloc _⟩
      case round =>
        clear hw5
        obtain ⟨m, hm, rfl, hb, hg⟩ := hrel
        have HJ := Lib.hid hg
        have HB := Lib.hid hb
        clear hg hb
        by_cases hml : m < n.props.length
        · obtain ⟨b2, o2, rfl, d0, d1, l0, l1⟩ := prps_at (HPS.out.gr RPrp.mono HJ.out) m hml
          have hh2 := has_of_cell d0
          obtain ⟨q, hq⟩ : ∃ q, n.props[m] = q := ⟨_, rfl⟩
          have HQ := Lib.hid hq
          rw [hq] at d0 d1
          clear hq l0 l1
          by_cases v256 : 256 < q.val.length
          · have V : Hid (v = true) := Lib.hid (BT.out (by
              unfold bigN
              rw [Bool.or_eq_true, List.any_eq_true]
              exact .inr ⟨q, by rw [← HQ.out]; exact List.getElem_mem hml, by simpa using v256⟩))
            have nb : (256 : Int) < q.val.length := by omega
            go_wp2_with fail
            go_ret
            exact ⟨ret_bool (by rw [V.out]), HG.out.trans (HJ.out.alloc _)⟩
          · have nb : (q.val.length : Int) ≤ 256 := by omega
            have NB : Hid (q.val.length ≤ 256) := Lib.hid (by omega)
            clear v256
            go_wp2_with fail
            go_roundw
            case rel => exact ⟨m + 1, by omega, by go_num, fun j hj hjl => (by
              by_cases e : j = m
              · subst e; rw [HQ.out]; exact NB.out
              · exact HB.out j (by omega) hjl), HJ.out.alloc _⟩
            case measure => simp [intOf]; omega
        · have BF : Hid (bigN n = false) := Lib.hid (by
            unfold bigN
            rw [show decide (24 < n.props.length) = false by simpa using n24', Bool.false_or, List.any_eq_false]
            intro x hx
            obtain ⟨j, hj, rfl⟩ := List.getElem_of_mem hx
            have := HB.out j (by omega) hj
            simpa using this)
          go_wp2_with fail
          go_roundw
          case rel => exact ⟨k + 1, by omega, by go_num, fun j hj hjl => (by
            by_cases e : j = k
            · subst e; rw [HN.out]; exact BF.out
            · exact HA.out j (by omega) hjl), HG.out.trans HJ.out⟩
          case measure => simp [intOf]; omega
    · have V : Hid (v = false) := Lib.hid (by
        rw [VE.out, List.any_eq_false]
        intro x hx
        obtain ⟨j, hj, rfl⟩ := List.getElem_of_mem hx
        rw [HA.out j (by omega) hj]
        decide)
      go_wp2_with fail
      go_ret
      exact ⟨ret_bool (by rw [V.out]), HG.out⟩
theorem rnumber_any (n : Nat) (w : World) (hn : n < 4294967296) : Calls Tryz.prog 40 #[.int .i64 n] w (Grows w (.string (bs (cell4 n)))) := by
  have hc := run_convert_bytes_arg (P := Tryz.prog) (w.alloc (.cells #[.int .u8 ((n : Int) / 16777216), .int .u8 ((n : Int) / 65536 % 256), .int .u8 ((n : Int) / 256 % 256), .int .u8 ((n : Int) % 256)] 5)) 112 5 Tryz.underlying112 Tryz.underlying5 w.heap.size 0 4 4 [(n : Int) / 16777216, (n : Int) / 65536 % 256, (n : Int) / 256 % 256, (n : Int) % 256] rfl
    (fun i hi => by
      have := (Row.new w #[.int .u8 ((n : Int) / 16777216), .int .u8 ((n : Int) / 65536 % 256), .int .u8 ((n : Int) / 256 % 256), .int .u8 ((n : Int) % 256)] 5).cell i (by simpa using hi)
      rw [Nat.zero_add, this]
      match i, hi with
      | 0, _ => rfl
      | 1, _ => rfl
      | 2, _ => rfl
      | 3, _ => rfl) 9 Tryz.underlying9
  rw [str4] at hc
  go_enter Tryz.func40, Tryz.ntmps40
  go_wp2_with fail
  go_ret
  exact ⟨rfl, (Gr.refl _).alloc _⟩
theorem con_val {ps : List Prp} (hn : (ps.map Prp.name).Nodup) (c : St) : ps.contains ⟨phS, c⟩ = decide (valP ps phS = some c) := by
  rw [Bool.eq_iff_iff, List.contains_iff_mem, decide_eq_true_eq]
  constructor
  · intro h
    exact valP_mem hn h
  · intro h
    unfold valP at h
    cases e : ps.find? (fun p => p.name == phS) with
    | none => rw [e] at h; cases h
    | some p =>
      rw [e] at h
      have hv : p.val = c := Option.some.inj h
      have hm := List.mem_of_find?_eq_some e
      have hnm : p.name = phS := by simpa using List.find?_some e
      have : p = ⟨phS, c⟩ := by rw [← hnm, ← hv]
      rw [← this]
      exact hm
theorem rPhandle_ok (ts : Tr) (a : Option Addr) (cap : Nat) (p : Int) (w : World) (h : SlOf 3 RNod w a ts) (hv : VT ts) :
    Calls Tryz.prog 98 #[.agg #[.slice a ts.length cap], .int .i64 p] w
      (Grows w (.tuple #[.int .i64 (((phan ts p).getD 0 : Nat) : Int), .bool (phan ts p).isSome])) := by
  have H := Lib.hid h
  have HV := Lib.hid hv
  have l2 := hv.few
  clear h hv
  obtain ⟨P0, hP0⟩ : ∃ P : Ending → World → Prop, P = Grows w (.tuple #[.int .i64 (((phan ts p).getD 0 : Nat) : Int), .bool (phan ts p).isSome]) := ⟨_, rfl⟩
  rw [← hP0]
  have HP0 := Lib.hid hP0
  clear hP0
  go_enter Tryz.func98, Tryz.ntmps98
  go_wp2_with fail
  have RX := Lib.hid (Row.new w #[.slice a ts.length cap] 31)
  obtain ⟨W, hW⟩ : ∃ W : World, Hid (W = w.alloc (.cells #[.slice a ts.length cap] 31)) := ⟨_, Lib.hid rfl⟩
  have GW : Hid (Gr w W) := Lib.hid (by rw [hW.out]; exact (Gr.refl _).alloc _)
  rw [← hW.out] at RX ⊢
  obtain ⟨PB, hPB⟩ : ∃ N : Nat, Hid (w.heap.size = N) := ⟨_, Lib.hid rfl⟩
  rw [hPB.out] at RX ⊢
  clear hW hPB
  refine (rCheck_ok ts a cap W (H.out.gr RNod.mono GW.out) HV.out).mono ?_
  rintro e w1 ⟨rfl, hg1⟩
  have G1 := Lib.hid (GW.out.trans hg1)
  have RX1 := Lib.hid (RX.out.gr hg1)
  clear hg1 RX GW
  have x0 := RX1.out.cell 0 (by simp)
  simp only [List.getElem_cons_zero] at x0
  have hx := has_of_cell x0
  by_cases hp1 : p < 1
  · have PN : Hid (phan ts p = none) := Lib.hid (by unfold phan; rw [if_neg (by omega)])
    have kb : decide (p < 1) = true := by simpa using hp1
    clear hp1
    go_wp2_with fail
    rw [HP0.out, PN.out]
    exact ⟨rfl, G1.out⟩
  by_cases hp2 : 1048576 < p
  · have PN : Hid (phan ts p = none) := Lib.hid (by unfold phan; rw [if_neg (by omega)])
    have kb : decide (p < 1) = false := by simpa using hp1
    have kc : decide (1048576 < p) = true := by simpa using hp2
    clear hp1 hp2
    go_wp2_with fail
    rw [HP0.out, PN.out]
    exact ⟨rfl, G1.out⟩
  obtain ⟨n, rfl⟩ : ∃ n : Nat, p = n := ⟨p.toNat, by omega⟩
  have N1 : Hid (1 ≤ n ∧ n ≤ 1048576) := Lib.hid (by omega)
  have PH : Hid (phan ts (n : Int) = ts.findIdx? (fun x => x.props.contains ⟨phS, cell4 n⟩)) := Lib.hid (by unfold phan; rw [if_pos (by omega), Int.toNat_natCast])
  have kb : decide ((n : Int) < 1) = false := by simpa using hp1
  have kb2 : decide (n < 1) = false := by rw [decide_eq_false_iff_not]; omega
  have kc : decide ((1048576 : Int) < n) = false := by simpa using hp2
  have kc2 : decide (1048576 < n) = false := by rw [decide_eq_false_iff_not]; omega
  clear hp1 hp2
  go_wp2_with fail
  clear x0 hx kb kb2 kc kc2
  go_loopw [24] (fun i wr => ∃ k : Nat, k ≤ ts.length ∧ i = .int .i64 (k : Int) ∧ (∀ j (hj : j < k) (hjl : j < ts.length), ts[j].props.contains ⟨phS, cell4 n⟩ = false) ∧ Gr w wr) (fun i _ => ts.length - (intOf i).toNat)
  case atStart => exact ⟨0, Nat.zero_le _, rfl, fun j h => by omega, G1.out⟩
  case round =>
    obtain ⟨k, hk, rfl, ha, hg⟩ := hrel
    have HG := Lib.hid hg
    have HA := Lib.hid ha
    clear hg ha
    by_cases hlt : k < ts.length
    · obtain ⟨b, o, pa, pc, rfl, c0, c1, c2, hps, hpf, hw, hnl⟩ := nods_at (H.out.gr RNod.mono HG.out) k hlt
      have CV : Hid (ts[k].props.contains ⟨phS, cell4 n⟩ = decide (valP ts[k].props phS = some (cell4 n))) := Lib.hid (con_val (by have q := vt_nodup HV.out hlt; rwa [nd_get hlt] at q) _)
      have N12 : Hid (ts[k].props.length ≤ 12) := Lib.hid (HV.out.fits _ (List.getElem_mem hlt))
      obtain ⟨nk, hnk⟩ : ∃ t, ts[k] = t := ⟨_, rfl⟩
      have HNK := Lib.hid hnk
      rw [hnk] at c0 c1 c2 hps CV N12
      have HPS := Lib.hid hps
      have hh := has_of_cell c0
      have HLT := Lib.hid hlt
      have kn : (k : Int) < (ts.length : Int) := by omega
      clear hnk hps hpf hw hnl
      go_upto_region 6 with (fail)
      have BX := Lib.hid (Row.new wr #[.int .i64 nk.parent, .string (bs nk.name), .slice pa nk.props.length pc] 55)
      obtain ⟨W6, hW6⟩ : ∃ W : World, Hid (W = wr.alloc (.cells #[.int .i64 nk.parent, .string (bs nk.name), .slice pa nk.props.length pc] 55)) := ⟨_, Lib.hid rfl⟩
      have G6 : Hid (Gr wr W6) := Lib.hid (by rw [hW6.out]; exact (Gr.refl _).alloc _)
      rw [← hW6.out] at BX ⊢
      obtain ⟨PX, hPX⟩ : ∃ N : Nat, Hid (wr.heap.size = N) := ⟨_, Lib.hid rfl⟩
      rw [hPX.out] at BX ⊢
      clear hW6 hPX c0 c1 c2 hh
      have y0 := BX.out.cell 0 (by simp)
      have y1 := BX.out.cell 1 (by simp)
      have y2 := BX.out.cell 2 (by simp)
      simp only [List.getElem_cons_zero, List.getElem_cons_succ] at y0 y1 y2
      have hy := has_of_cell y0
      go_wp2_with fail
      refine (rOf_any nk pa pc [112, 104, 97, 110, 100, 108, 101] W6 (HPS.out.gr RPrp.mono G6.out) (by have := N12.out; omega)).mono ?_
      intro e w7 hgv
      clear y0 y1 y2 hy
      cases hz : valP nk.props [112, 104, 97, 110, 100, 108, 101] with
      | none =>
        rw [hz] at hgv
        obtain ⟨hg7, rfl⟩ := hgv
        have CF : Hid (nk.props.contains ⟨phS, cell4 n⟩ = false) := Lib.hid (by rw [CV.out, show valP nk.props phS = none from hz]; rfl)
        have G7 := Lib.hid (HG.out.trans (G6.out.trans hg7))
        clear hg7 hz
        go_wp2_with fail
        go_roundw
        case rel => exact ⟨k + 1, by have := HLT.out; omega, by go_num, fun j hj hjl => (by
          by_cases e : j = k
          · subst e; rw [HNK.out]; exact CF.out
          · exact HA.out j (by omega) hjl), G7.out⟩
        case measure => simp [intOf]; have := HLT.out; omega
      | some v =>
        rw [hz] at hgv
        obtain ⟨hg7, rfl⟩ := hgv
        have HZ := Lib.hid hz
        have G7 := Lib.hid (HG.out.trans (G6.out.trans hg7))
        clear hg7 hz
        go_wp2_with fail
        refine (rnumber_any n w7 (by have := N1.out; omega)).mono ?_
        rintro e w8 ⟨rfl, hg8⟩
        have G8 := Lib.hid (G7.out.trans hg8)
        obtain ⟨c4, hc4⟩ : ∃ c, cell4 n = c := ⟨_, rfl⟩
        have HC4 := Lib.hid hc4
        rw [hc4]
        clear hg8 hc4
        by_cases hvc : v = c4
        · have hb : (v == c4) = true := beq_iff_eq.2 hvc
          have CF : Hid (nk.props.contains ⟨phS, cell4 n⟩ = true) := Lib.hid (by rw [CV.out, show valP nk.props phS = some v from HZ.out, hvc, HC4.out]; simp)
          subst hvc
          clear hb
          go_wp2_with fail
          have e : phan ts (n : Int) = some k := by
            rw [PH.out, List.findIdx?_eq_some_iff_getElem]
            exact ⟨HLT.out, by rw [HNK.out]; exact CF.out, fun j hj => by rw [HA.out j hj (by have := HLT.out; omega)]; decide⟩
          rw [HP0.out, e]
          exact ⟨rfl, G8.out⟩
        · have hb : (v == c4) = false := by rw [beq_eq_false_iff_ne]; exact hvc
          have CF : Hid (nk.props.contains ⟨phS, cell4 n⟩ = false) := Lib.hid (by rw [CV.out, show valP nk.props phS = some v from HZ.out, HC4.out]; simpa using hvc)
          clear hvc
          go_wp2_with fail
          go_roundw
          case rel => exact ⟨k + 1, by have := HLT.out; omega, by go_num, fun j hj hjl => (by
            by_cases e : j = k
            · subst e; rw [HNK.out]; exact CF.out
            · exact HA.out j (by omega) hjl), G8.out⟩
          case measure => simp [intOf]; have := HLT.out; omega
    · have kn : ¬ (k : Int) < (ts.length : Int) := by omega
      have PN : Hid (phan ts (n : Int) = none) := Lib.hid (by
        rw [PH.out, List.findIdx?_eq_none_iff]
        intro x hx
        obtain ⟨j, hj, rfl⟩ := List.getElem_of_mem hx
        exact HA.out j (by omega) hj)
      clear hlt
      go_wp2_with fail
      rw [HP0.out, PN.out]
      exact ⟨rfl, HG.out⟩
end Go.Proofs.YtdjhnfopdlgliaaGreat

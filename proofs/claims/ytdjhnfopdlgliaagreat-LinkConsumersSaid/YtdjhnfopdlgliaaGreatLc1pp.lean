/- Lemmas and contracts for the proof of LinkConsumers (several texts in one, printed by wip/tools/pack.py): TeX TeY TfA LoA LoB VeB LqC LqD LqE TfB TfC TfD. -/
import Derived.Test.YtdjhnfopdlgliaaGreatLc1po
import Derived.Test.YtdjhnfopdlgliaaGreatLc1pb
import Derived.Test.YtdjhnfopdlgliaaGreatLc1pi
import Derived.Test.YtdjhnfopdlgliaaGreatLc1pm
import Derived.Test.YtdjhnfopdlgliaaGreatLc1pn
import Derived.Test.YtdjhnfopdlgliaaGreatLc1pc
import Derived.WalkMore
set_option maxRecDepth 100000
set_option maxHeartbeats 16000000
set_option linter.unusedVariables false
set_option linter.unusedSimpArgs false
namespace Go.Proofs.YtdjhnfopdlgliaaGreat
open Go.RowKit
open Classical
theorem cellsNew (ns : List Nat) (w : World) (arr : Array Value) (h : arr.toList = nums (ns.map (fun n : Nat => (n : Int)))) (hn : ∀ n ∈ ns, n < 4294967296) (h0 : 0 < ns.length) (hf : ns.length ≤ 1000) (k N : Nat) (hk : k = ns.length) (hN : w.heap.size = N) :
    Calls Tryz.prog 19 #[.slice (some ⟨N, 0, none⟩) k k] (w.alloc (.cells arr 3)) fun e w' => e = .returned (.string (bs (cellsS ns))) ∧ Gr w w' := by
  subst hk
  subst hN
  have R := Row.new w arr 3
  rw [h] at R
  refine (growCells_any ns _ ns.length _ (ints_row R hn) hn h0 hf).mono ?_
  rintro e w' ⟨rfl, hg⟩
  exact ⟨rfl, ((Gr.refl _).alloc _).trans hg⟩
theorem intsNew (xs : List Int) (ns : List Nat) (ax : Option Addr) (cx : Nat) (w : World) (hx : SlOf 1 RI w ax xs) (fx : xs.length ≤ 1000) (arr : Array Value) (h : arr.toList = nums (ns.map (fun n : Nat => (n : Int)))) (hn : ∀ n ∈ ns, n < 4294967296) (hf : ns.length ≤ 1000) (j k N : Nat) (hj : j = xs.length) (hk : k = ns.length) (hN : w.heap.size = N) :
    Calls Tryz.prog 28 #[.slice ax j cx, .slice (some ⟨N, 0, none⟩) k k] (w.alloc (.cells arr 3)) (Grows w (.bool (decide (xs = ns.map (fun n : Nat => (n : Int)))))) := by
  subst hj
  subst hk
  subst hN
  have R := Row.new w arr 3
  rw [h] at R
  have := ints_any xs (ns.map (fun n : Nat => (n : Int))) ax (some ⟨w.heap.size, 0, none⟩) cx ns.length _ (hx.giI ((Gr.refl _).alloc _)) (ints_row R hn) (by unfold Fit; omega) (by unfold Fit; simp; omega)
  rw [List.length_map] at this
  exact this.mono fun e w' q => ⟨q.1, ((Gr.refl _).alloc _).trans q.2⟩
theorem awake12_any (w : World) : Calls Tryz.prog 10 #[] w (Grows w (.bool true)) := by
  go_enter Tryz.func10, Tryz.ntmps10
  go_wp2_with fail
  refine (cellsNew [1, 5, 2] w #[.int .i64 1, .int .i64 5, .int .i64 2] rfl (by simp) (by simp) (by simp) 3 _ rfl rfl).mono ?_
  rintro e w1 ⟨rfl, hg1⟩
  have G1 := Lib.hid hg1
  clear hg1
  go_wp2_with fail
  have R1 := Lib.hid (Row.new w1 #[.string (bs sC), .string (bs (cellsS [1, 5, 2]))] 89)
  refine (cellsNew [1] (w1.alloc (.cells #[.string (bs sC), .string (bs (cellsS [1, 5, 2]))] 89)) #[.int .i64 1] rfl (by simp) (by simp) (by simp) 1 _ rfl (by simp)).mono ?_
  rintro e w2 ⟨rfl, hg2⟩
  have G2 := Lib.hid ((G1.out.alloc _).trans hg2)
  have R12 := Lib.hid (R1.out.gr hg2)
  clear hg2 R1
  go_wp2_with fail
  refine (cellsNew [1] w2 #[.int .i64 1] rfl (by simp) (by simp) (by simp) 1 _ rfl rfl).mono ?_
  rintro e w3 ⟨rfl, hg3⟩
  have G3 := Lib.hid (G2.out.trans hg3)
  have R13 := Lib.hid (R12.out.gr hg3)
  clear hg3 R12
  go_wp2_with fail
  have R3 := Lib.hid (Row.new w3 #[.string (bs sCC), .string (bs (cellsS [1])), .string (bs phS), .string (bs (cellsS [1]))] 89)
  have R13' := Lib.hid (R13.out.alloc (.cells #[.string (bs sCC), .string (bs (cellsS [1])), .string (bs phS), .string (bs (cellsS [1]))] 89))
  refine (cellsNew [2] (w3.alloc (.cells #[.string (bs sCC), .string (bs (cellsS [1])), .string (bs phS), .string (bs (cellsS [1]))] 89)) #[.int .i64 2] rfl (by simp) (by simp) (by simp) 1 _ rfl (by simp)).mono ?_
  rintro e w4 ⟨rfl, hg4⟩
  have G4 := Lib.hid ((G3.out.alloc _).trans hg4)
  have R14 := Lib.hid (R13'.out.gr hg4)
  have R34 := Lib.hid (R3.out.gr hg4)
  clear hg4 R13' R3 R13
  obtain ⟨B1, hB1⟩ : ∃ N : Nat, Hid (w1.heap.size = N) := ⟨_, Lib.hid rfl⟩
  obtain ⟨B3, hB3⟩ : ∃ N : Nat, Hid (w3.heap.size = N) := ⟨_, Lib.hid rfl⟩
  rw [hB1.out] at R14 ⊢
  rw [hB3.out] at R34 ⊢
  go_wp2_with fail
  have R4 := Lib.hid (Row.new w4 #[.string (bs phS), .string (bs (cellsS [2]))] 89)
  obtain ⟨W1, hW1⟩ : ∃ W : World, Hid (W = w4.alloc (.cells #[.string (bs phS), .string (bs (cellsS [2]))] 89)) := ⟨_, Lib.hid rfl⟩
  have z1 : Hid (W1.heap.size = w4.heap.size + 1) := Lib.hid (by rw [hW1.out]; simp)
  obtain ⟨B4, hB4⟩ : ∃ N : Nat, Hid (w4.heap.size = N) := ⟨_, Lib.hid rfl⟩
  have R5 := Lib.hid (Row.new W1 #[.int .i64 (-1), .string (bs []), .slice none 0 0, .int .i64 0, .string (bs [97]), .slice (some ⟨B1, 0, none⟩) 1 1, .int .i64 0, .string (bs [98]), .slice (some ⟨B3, 0, none⟩) 2 2, .int .i64 0, .string (bs [99]), .slice (some ⟨B4, 0, none⟩) 1 1] 55)
  obtain ⟨W2, hW2⟩ : ∃ W : World, Hid (W = W1.alloc (.cells #[.int .i64 (-1), .string (bs []), .slice none 0 0, .int .i64 0, .string (bs [97]), .slice (some ⟨B1, 0, none⟩) 1 1, .int .i64 0, .string (bs [98]), .slice (some ⟨B3, 0, none⟩) 2 2, .int .i64 0, .string (bs [99]), .slice (some ⟨B4, 0, none⟩) 1 1] 55)) := ⟨_, Lib.hid rfl⟩
  have z2 : Hid (W2.heap.size = w4.heap.size + 1 + 1) := Lib.hid (by rw [hW2.out]; simp [z1.out])
  obtain ⟨B5, hB5⟩ : ∃ N : Nat, Hid (w4.heap.size + 1 = N) := ⟨_, Lib.hid rfl⟩
  have R6 := Lib.hid (Row.new W2 #[.slice (some ⟨B5, 0, none⟩) 4 4] 31)
  obtain ⟨W3, hW3⟩ : ∃ W : World, Hid (W = W2.alloc (.cells #[.slice (some ⟨B5, 0, none⟩) 4 4] 31)) := ⟨_, Lib.hid rfl⟩
  obtain ⟨B6, hB6⟩ : ∃ N : Nat, Hid (w4.heap.size + 1 + 1 = N) := ⟨_, Lib.hid rfl⟩
  have g1 : Gr w4 W1 := by rw [hW1.out]; exact (Gr.refl _).alloc _
  have g2 : Gr W1 W2 := by rw [hW2.out]; exact (Gr.refl _).alloc _
  have g3 : Gr W2 W3 := by rw [hW3.out]; exact (Gr.refl _).alloc _
  rw [← hW1.out, hB4.out] at R4
  rw [← hW2.out, z1.out, hB5.out] at R5
  rw [← hW3.out, z2.out, hB6.out] at R6
  have SLT : Hid (SlOf 3 RNod W3 (some ⟨B5, 0, none⟩) exT) := Lib.hid (by
    refine nods_of_row (ts := [⟨⟨-1, [], []⟩, none, 0⟩, ⟨⟨0, [97], [⟨sC, cellsS [1, 5, 2]⟩]⟩, some ⟨B1, 0, none⟩, 1⟩, ⟨⟨0, [98], [⟨sCC, cellsS [1]⟩, ⟨phS, cellsS [1]⟩]⟩, some ⟨B3, 0, none⟩, 2⟩, ⟨⟨0, [99], [⟨phS, cellsS [2]⟩]⟩, some ⟨B4, 0, none⟩, 1⟩]) (R5.out.gr g3) ?_
    intro t ht
    simp only [List.mem_cons, List.not_mem_nil, or_false] at ht
    rcases ht with rfl | rfl | rfl | rfl
    · exact ⟨by simp [Wide], by simp, by simp, by simp [Fit], SlOf.nil _ _ _ _⟩
    · exact ⟨by simp [Wide], by simp, by simp, by simp [Fit], prps_of_row (ps := [⟨sC, cellsS [1, 5, 2]⟩]) (R14.out.gr (g1.trans (g2.trans g3))) (by simp only [List.mem_singleton]; rintro p rfl; decide)⟩
    · exact ⟨by simp [Wide], by simp, by simp, by simp [Fit], prps_of_row (ps := [⟨sCC, cellsS [1]⟩, ⟨phS, cellsS [1]⟩]) (R34.out.gr (g1.trans (g2.trans g3))) (by simp only [List.mem_cons, List.not_mem_nil, or_false]; rintro p (rfl | rfl) <;> decide)⟩
    · exact ⟨by simp [Wide], by simp, by simp, by simp [Fit], prps_of_row (ps := [⟨phS, cellsS [2]⟩]) (R4.out.gr (g2.trans g3)) (by simp only [List.mem_singleton]; rintro p rfl; decide)⟩)
  have G5 := Lib.hid (G4.out.trans (g1.trans (g2.trans g3)))
  rw [hB6.out, hB5.out, hB4.out]
  have hC := Of_any exT (some ⟨B5, 0, none⟩) 4 1 sC sCC W3 SLT.out exT_chk (by decide)
  rw [exT_of] at hC
  have HW3 := Lib.hid (show W3 = ((w4.alloc (.cells #[.string (bs phS), .string (bs (cellsS [2]))] 89)).alloc (.cells #[.int .i64 (-1), .string (bs []), .slice none 0 0, .int .i64 0, .string (bs [97]), .slice (some ⟨B1, 0, none⟩) 1 1, .int .i64 0, .string (bs [98]), .slice (some ⟨B3, 0, none⟩) 2 2, .int .i64 0, .string (bs [99]), .slice (some ⟨B4, 0, none⟩) 1 1] 55)).alloc (.cells #[.slice (some ⟨B5, 0, none⟩) 4 4] 31) by rw [hW3.out, hW2.out, hW1.out])
  have HC : Hid (Calls Tryz.prog 9 #[.agg #[.slice (some ⟨B5, 0, none⟩) 4 4], .int .i64 1, .string (bs sC), .string (bs sCC)] (((w4.alloc (.cells #[.string (bs phS), .string (bs (cellsS [2]))] 89)).alloc (.cells #[.int .i64 (-1), .string (bs []), .slice none 0 0, .int .i64 0, .string (bs [97]), .slice (some ⟨B1, 0, none⟩) 1 1, .int .i64 0, .string (bs [98]), .slice (some ⟨B3, 0, none⟩) 2 2, .int .i64 0, .string (bs [99]), .slice (some ⟨B4, 0, none⟩) 1 1] 55)).alloc (.cells #[.slice (some ⟨B5, 0, none⟩) 4 4] 31)) (GivesLks W3 (.ok [⟨1, 2, sC, 0, [5]⟩, ⟨1, 3, sC, 1, []⟩]))) := Lib.hid (by rw [← HW3.out]; exact hC)
  clear hC HW3 g1 g2 g3
  refine HC.out.mono ?_
  rintro e w5 ⟨v, lt, rfl, h1, h2, h3, hg5⟩
  obtain ⟨va, vc, rfl⟩ := owns_slice h2
  obtain ⟨t0, t1, rfl⟩ : ∃ t0 t1, lt = [t0, t1] := by
    have hl : lt.length = 2 := by have := congrArg List.length h1; simpa [lks] using this
    match lt, hl with
    | [t0, t1], _ => exact ⟨t0, t1, rfl⟩
  have e0 : t0.l = ⟨1, 2, sC, 0, [5]⟩ := by simp [lks] at h1; exact h1.1
  have e1 : t1.l = ⟨1, 3, sC, 1, []⟩ := by simp [lks] at h1; exact h1.2
  have hr0 := h3 t0 (by simp)
  obtain ⟨gB, hgB, d0, d1, d2, d3, d4⟩ := lnk_at h2 (k := 0) (by simp)
  obtain ⟨gB', hgB', f0, f1, f2, f3, f4⟩ := lnk_at h2 (k := 1) (by simp)
  subst hgB
  cases hgB'
  simp only [List.getElem_cons_zero, List.getElem_cons_succ, e0, e1] at d1 d4 f1 hr0
  have G6 := Lib.hid (G5.out.trans hg5)
  have b6 : w5.cell? ⟨B6, 0, none⟩ = some (.slice (some ⟨B5, 0, none⟩) 4 4) := (R6.out.gr hg5).cell 0 (by simp)
  have SL5 := Lib.hid (SLT.out.gr RNod.mono hg5)
  obtain ⟨a0, c0, ea, _, hs0⟩ := ints_at hr0.1 hr0.2.1
  have DD := Lib.hid (And.intro d1 (And.intro d4 f1))
  have HS0 := Lib.hid hs0
  have EA := Lib.hid ea
  clear h1 h2 h3 hg5 e0 e1 hr0 d0 d1 d2 d3 d4 f0 f1 f2 f3 f4 hs0 ea
  go_wp2_with fail
  have hO := order_any exT (some ⟨B5, 0, none⟩) 4 sC sCC w5 SL5.out exT_chk
  rw [exT_order] at hO
  refine hO.mono ?_
  rintro e w6 ⟨vo, rfl, ho, ho2, hg6⟩
  obtain ⟨a6, c6, rfl, _, hs6⟩ := ints_at ho ho2
  have S6 := Lib.hid hs6
  have G7 := Lib.hid (G6.out.trans hg6)
  have d1 := cell_gr hg6 DD.out.1
  have d4 := cell_gr hg6 DD.out.2.1
  rw [EA.out] at d4
  have f1 := cell_gr hg6 DD.out.2.2
  have D6 := Lib.hid (And.intro d1 (And.intro d4 f1))
  have HS6 := Lib.hid (HS0.out.giI hg6)
  clear hO ho ho2 hg6 hs6
  go_wp2_with fail
  refine (intsNew [5] [5] a0 c0 w6 HS6.out (by simp) #[.int .i64 5] rfl (by simp) (by simp) 1 1 _ rfl rfl rfl).mono ?_
  rintro e w7 ⟨rfl, hg7⟩
  have G8 := Lib.hid (G7.out.trans hg7)
  have f7 := cell_gr hg7 D6.out.2.2
  have S7 := Lib.hid (S6.out.giI hg7)
  clear hg7
  have eT : (decide (([5] : List Int) = [5].map (fun n : Nat => (n : Int)))) = true := by simp
  simp only [eT]
  go_wp2_with fail
  refine (intsNew [0, 2, 3, 1] [0, 2, 3, 1] a6 c6 w7 S7.out (by simp) #[.int .i64 0, .int .i64 2, .int .i64 3, .int .i64 1] rfl (by simp) (by simp) 4 4 _ rfl rfl rfl).mono ?_
  rintro e w8 ⟨rfl, hg8⟩
  have G9 := Lib.hid (G8.out.trans hg8)
  clear hg8
  have eU : (decide (([0, 2, 3, 1] : List Int) = [0, 2, 3, 1].map (fun n : Nat => (n : Int)))) = true := by simp
  simp only [eU]
  go_wp2_with fail
  go_ret
  exact ⟨rfl, G9.out⟩
end Go.Proofs.YtdjhnfopdlgliaaGreat

set_option linter.unusedVariables false
set_option linter.unusedSimpArgs false
namespace Go.Proofs.YtdjhnfopdlgliaaGreat
open Go.RowKit
abbrev ci (l : List Nat) : List Int := l.map (fun m : Nat => (m : Int))
/-! The measure. -/
def wt (N o : Nat) : Nat := if o = 0 then N + 1 else o
def ms (N : Nat) : List Nat → Nat
  | [] => 0
  | o :: l => wt N o + ms N l
def cnt : List Nat → Nat
  | [] => 0
  | o :: l => (if o = 0 then 0 else 1) + cnt l
structure DOk (gs : List (List Int)) (tt : Nat) (out : List Nat) : Prop where
  len : out.length = gs.length
  le : ∀ x, out.getD x 0 ≤ cnt out
  sup : ∀ x, 1 < out.getD x 0 → ∃ y : Nat, (y : Int) ∈ gs.getD x [] ∧ tt < y ∧ 0 < out.getD y 0 ∧ out.getD y 0 < out.getD x 0
structure DLe (gs : List (List Int)) (tt : Nat) (s t : List Nat × Bool) : Prop where
  ok : DOk gs tt t.1
  le : ms gs.length t.1 ≤ ms gs.length s.1
  ch : t.2 = s.2 ∧ t.1 = s.1 ∨ t.2 = true ∧ ms gs.length t.1 < ms gs.length s.1
/-! At the end nothing can be relaxed. -/
/-! Circles. -/
end Go.Proofs.YtdjhnfopdlgliaaGreat

set_option linter.unusedVariables false
set_option linter.unusedSimpArgs false
namespace Go.Proofs.YtdjhnfopdlgliaaGreat
open Go.RowKit
open Classical
def EdgB (gs : List (List Int)) : Prop := ∀ i, ∀ y ∈ gs.getD i [], ∃ j : Nat, y = j ∧ j < gs.length
def WayP (gs : List (List Int)) : Nat → List Nat → Nat → Prop
  | a, [], t => (t : Int) ∈ gs.getD a []
  | a, b :: l, t => (b : Int) ∈ gs.getD a [] ∧ WayP gs b l t
/-! The order. -/
def cntB : List Bool → Nat
  | [] => 0
  | b :: l => (if b = true then 1 else 0) + cntB l
structure OInv (gs : List (List Int)) (done : List Bool) (out : List Int) : Prop where
  len : done.length = gs.length
  cnt : cntB done = out.length
  mem : ∀ i : Nat, i < gs.length → (done.getD i false = true ↔ (i : Int) ∈ out)
  nat : ∀ z ∈ out, ∃ j : Nat, z = j ∧ j < gs.length
  nd : out.Nodup
  aft : ∀ i (hi : i < out.length), ∀ y ∈ gs.getD out[i].toNat [], ∃ (j : Nat) (hj : j < out.length), j < i ∧ out[j] = y
structure OFin (gs : List (List Int)) (out : List Int) : Prop where
  len : out.length = gs.length
  all : ∀ i : Nat, i < gs.length → (i : Int) ∈ out
  nat : ∀ z ∈ out, ∃ j : Nat, z = j ∧ j < gs.length
  nd : out.Nodup
  aft : ∀ i (hi : i < out.length), ∀ y ∈ gs.getD out[i].toNat [], ∃ (j : Nat) (hj : j < out.length), j < i ∧ out[j] = y
/-! The graph of the links. -/
theorem mem_compactE {zs : List Int} {y : Int} : y ∈ Lib.compact zs ↔ y ∈ zs := by
  unfold Lib.compact Lib.compactUpTo
  rw [List.mem_map]
  have hg : ∀ j (hj : j < zs.length), zs.toArray[j]! = zs[j] := fun j hj => by simp [getElem!_pos, hj]
  constructor
  · rintro ⟨j, hj, rfl⟩
    have hl := List.mem_range.1 (List.mem_filter.1 hj).1
    rw [hg j hl]
    exact List.getElem_mem hl
  · intro h
    obtain ⟨j, hj, rfl⟩ := List.getElem_of_mem h
    have key : ∀ j, (hj : j < zs.length) → ∃ a, a ∈ List.filter (Lib.keeps zs.toArray) (List.range zs.length) ∧ zs.toArray[a]! = zs[j] := by
      intro j
      induction j with
      | zero => intro hj; exact ⟨0, List.mem_filter.2 ⟨List.mem_range.2 hj, Lib.keeps_lt_one _ 0 (by omega)⟩, hg 0 hj⟩
      | succ j ih =>
        intro hj
        by_cases e : zs.toArray[j + 1]! = zs.toArray[j + 1 - 1]!
        · obtain ⟨a, h1, h2⟩ := ih (by omega)
          refine ⟨a, h1, ?_⟩
          rw [h2, ← hg j (by omega), ← hg (j + 1) hj]
          exact e.symm
        · exact ⟨j + 1, List.mem_filter.2 ⟨List.mem_range.2 hj, Lib.keeps_pos e⟩, hg _ hj⟩
    exact key j hj
/-! Where links lead. -/
theorem ofF_mem {ts : Tr} {node : Int} {pn cn : St} : ∀ (f : Nat) (l : List Int) (out ls : List Lnk), ofF ts node pn cn f l out = .ok ls → ∀ x ∈ ls, x ∈ out ∨ (x.node = node ∧ ∃ k : Nat, x.prov = k ∧ k < ts.length)
  | 0, l, out, ls, h, x, hx => by rw [ofF] at h; injection h with h; subst h; exact .inl hx
  | f + 1, [], out, ls, h, x, hx => by rw [ofF] at h; injection h with h; subst h; exact .inl hx
  | f + 1, p :: l, out, ls, h, x, hx => by
    rw [ofF] at h
    cases hp : phan ts p with
    | none => rw [hp] at h; cases h
    | some k =>
      rw [hp] at h
      dsimp only at h
      cases ha : argsN ts k cn with
      | none => rw [ha] at h; cases h
      | some n =>
        rw [ha] at h
        dsimp only at h
        split at h
        · cases h
        · rcases ofF_mem f _ _ ls h x hx with q | q
          · rcases List.mem_append.1 q with q | q
            · exact .inl q
            · rw [List.mem_singleton.1 q]
              exact .inr ⟨rfl, k, rfl, phan_lt hp⟩
          · exact .inr q
theorem ofT_mem {ts : Tr} {n : Nat} {pn cn : St} {ls : List Lnk} (h : ofT ts n pn cn = .ok ls) : ∀ x ∈ ls, x.node = n ∧ ∃ k : Nat, x.prov = k ∧ k < ts.length := by
  intro x hx
  unfold ofT at h
  split at h
  · injection h with h; subst h; cases hx
  · split at h
    · injection h with h; subst h; cases hx
    · split at h
      · rcases ofF_mem _ _ _ ls h x hx with q | q
        · cases q
        · exact q
      · cases h
theorem allT_mem {ts : Tr} {pn cn : St} : ∀ (K : Nat) (ls : List Lnk), allT ts pn cn K = .ok ls → ∀ x ∈ ls, (∃ n : Nat, x.node = n ∧ n < K) ∧ ∃ k : Nat, x.prov = k ∧ k < ts.length
  | 0, ls, h, x, hx => by rw [allT] at h; injection h with h; subst h; cases hx
  | K + 1, ls, h, x, hx => by
    rw [allT] at h
    cases ha : allT ts pn cn K with
    | error e => rw [ha] at h; cases h
    | ok out =>
      rw [ha] at h
      dsimp only at h
      cases ho : ofT ts K pn cn with
      | error e => rw [ho] at h; cases h
      | ok l2 =>
        rw [ho] at h
        injection h with h
        subst h
        rcases List.mem_append.1 hx with q | q
        · obtain ⟨⟨n, e, hn⟩, q2⟩ := allT_mem K out ha x q
          exact ⟨⟨n, e, by omega⟩, q2⟩
        · obtain ⟨e, q2⟩ := ofT_mem ho x q
          exact ⟨⟨K, e, by omega⟩, q2⟩
/-! The links of one node. -/
def ofNode (p : Nat) (l : List Lnk) : List Lnk := l.filter (fun x => x.node == (p : Int))
theorem ofNode_all {p : Nat} {l : List Lnk} (h : ∀ x ∈ l, x.node = p) : ofNode p l = l := by
  unfold ofNode
  rw [List.filter_eq_self]
  intro x hx
  rw [h x hx]
  simp
theorem ofNode_none {p : Nat} {l : List Lnk} (h : ∀ x ∈ l, x.node ≠ p) : ofNode p l = [] := by
  unfold ofNode
  rw [List.filter_eq_nil_iff]
  intro x hx
  simpa using h x hx
theorem allT_node {ts : Tr} {pn cn : St} {p : Nat} : ∀ (K : Nat) (ls : List Lnk), allT ts pn cn K = .ok ls → (K ≤ p → ofNode p ls = []) ∧ (p < K → ofT ts p pn cn = .ok (ofNode p ls))
  | 0, ls, h => by
    rw [allT] at h; injection h with h; subst h
    exact ⟨fun _ => rfl, fun h => absurd h (by omega)⟩
  | K + 1, ls, h => by
    rw [allT] at h
    cases ha : allT ts pn cn K with
    | error e => rw [ha] at h; cases h
    | ok out =>
      rw [ha] at h
      dsimp only at h
      cases ho : ofT ts K pn cn with
      | error e => rw [ho] at h; cases h
      | ok l2 =>
        rw [ho] at h
        injection h with h
        subst h
        obtain ⟨h1, h2⟩ := allT_node (p := p) K out ha
        have e : ofNode p (out ++ l2) = ofNode p out ++ ofNode p l2 := by unfold ofNode; rw [List.filter_append]
        refine ⟨fun hp => ?_, fun hp => ?_⟩
        · rw [e, h1 (by omega), ofNode_none (fun x hx => by rw [(ofT_mem ho x hx).1]; omega)]
          rfl
        · by_cases q : p = K
          · subst q
            rw [e, h1 (Nat.le_refl _), List.nil_append, ofNode_all (fun x hx => (ofT_mem ho x hx).1)]
            exact ho
          · rw [e, ofNode_none (l := l2) (fun x hx => by rw [(ofT_mem ho x hx).1]; omega), List.append_nil]
            exact h2 (by omega)
/-! The value again. -/
def natL (l : List Int) : List Nat := l.map Int.toNat
def pieceL (ts : Tr) (x : Lnk) : St := (valP (nd ts x.prov.toNat).props phS).getD [] ++ cellsS (natL x.args)
def valL (ts : Tr) (l : List Lnk) : St := l.flatMap (pieceL ts)
theorem cell4_num4 (a b c d : UInt8) : cell4 (num4 a b c d) = [a, b, c, d] := by
  have ha := a.toNat_lt
  have hb := b.toNat_lt
  have hc := c.toNat_lt
  have hd := d.toNat_lt
  have e : ∀ (x : UInt8) (n : Nat), n % 256 = x.toNat → UInt8.ofNat n = x := fun x n h => by
    apply UInt8.toNat_inj.1
    rw [UInt8.toNat_ofNat']
    exact h
  unfold cell4 num4
  rw [e a _ (by omega), e b _ (by omega), e c _ (by omega), e d _ (by omega)]
theorem cells_back : ∀ v : St, v.length % 4 = 0 → cellsS (natL (cellsL v)) = v
  | [], _ => rfl
  | [_], h => by simp at h
  | [_, _], h => by simp at h
  | [_, _, _], h => by simp at h
  | a :: b :: c :: d :: r, h => by
    have ih := cells_back r (by simp only [List.length_cons] at h; omega)
    unfold natL cellsS at ih ⊢
    rw [cellsL, List.map_cons, List.flatMap_cons, ih, Int.toNat_natCast, cell4_num4]
    rfl
theorem cellsL_nat : ∀ (v : St), ∀ z ∈ cellsL v, 0 ≤ z ∧ z < 4294967296
  | [], z, h => by cases h
  | [_], z, h => by simp [cellsL] at h
  | [_, _], z, h => by simp [cellsL] at h
  | [_, _, _], z, h => by simp [cellsL] at h
  | a :: b :: c :: d :: r, z, h => by
    rw [cellsL] at h
    rcases List.mem_cons.1 h with q | q
    · have ha := a.toNat_lt
      have hb := b.toNat_lt
      have hc := c.toNat_lt
      have hd := d.toNat_lt
      rw [q]
      unfold num4
      omega
    · exact cellsL_nat r z q
theorem valP_mem {ps : List Prp} (hn : (ps.map Prp.name).Nodup) {p : Prp} (hp : p ∈ ps) : valP ps p.name = some p.val := by
  induction ps with
  | nil => cases hp
  | cons x ps ih =>
    rw [List.map_cons, List.nodup_cons] at hn
    unfold valP at ih ⊢
    rw [List.find?_cons]
    rcases List.mem_cons.1 hp with rfl | hp
    · simp
    · have hx : x.name ≠ p.name := fun e => hn.1 (e ▸ List.mem_map_of_mem hp)
      rw [show (x.name == p.name) = false by rw [beq_eq_false_iff_ne]; exact hx]
      exact ih hn.2 hp
theorem vt_nodup {ts : Tr} (h : VT ts) {k : Nat} (hk : k < ts.length) : ((nd ts k).props.map Prp.name).Nodup := by
  have q := (h.prp k hk).asc
  rw [List.Nodup, List.pairwise_map]
  exact q.imp (fun h => vlt_ne h)
theorem phan_val {ts : Tr} (hv : VT ts) {p : Int} {k : Nat} (h : phan ts p = some k) : valP (nd ts k).props phS = some (cell4 p.toNat) := by
  have hk := phan_lt h
  unfold phan at h
  split at h
  · obtain ⟨_, h1, _⟩ := List.findIdx?_eq_some_iff_getElem.1 h
    rw [List.contains_iff_mem] at h1
    have e : ts[k] = nd ts k := (nd_get hk).symm
    rw [e] at h1
    exact valP_mem (vt_nodup hv hk) h1
  · cases h
theorem ofF_val {ts : Tr} (hv : VT ts) {node : Int} {pn cn : St} : ∀ (f : Nat) (l : List Int) (out ls : List Lnk), l.length ≤ f → ofF ts node pn cn f l out = .ok ls → valL ts ls = valL ts out ++ cellsS (natL l)
  | 0, l, out, ls, hl, h => by
    rw [ofF] at h; injection h with h; subst h
    cases l with
    | nil => simp [natL, cellsS]
    | cons a l => simp at hl
  | f + 1, [], out, ls, hl, h => by rw [ofF] at h; injection h with h; subst h; simp [natL, cellsS]
  | f + 1, p :: l, out, ls, hl, h => by
    rw [ofF] at h
    cases hp : phan ts p with
    | none => rw [hp] at h; cases h
    | some k =>
      rw [hp] at h
      dsimp only at h
      cases ha : argsN ts k cn with
      | none => rw [ha] at h; cases h
      | some n =>
        rw [ha] at h
        dsimp only at h
        split at h
        · cases h
        · have ih := ofF_val hv f _ _ ls (by rw [List.length_drop]; simp only [List.length_cons] at hl; omega) h
          rw [ih]
          have e1 : valL ts (out ++ [⟨node, (k : Int), pn, out.length, l.take n.toNat⟩]) = valL ts out ++ (cell4 p.toNat ++ cellsS (natL (l.take n.toNat))) := by
            unfold valL
            rw [List.flatMap_append, List.flatMap_cons, List.flatMap_nil, List.append_nil]
            unfold pieceL
            dsimp only
            rw [Int.toNat_natCast, phan_val hv hp]
            rfl
          have e2 : natL (p :: l) = p.toNat :: (natL (l.take n.toNat) ++ natL (l.drop n.toNat)) := by
            unfold natL
            rw [← List.map_append, List.take_append_drop, List.map_cons]
          rw [e1, e2]
          unfold cellsS
          rw [List.flatMap_cons, List.flatMap_append]
          simp only [List.append_assoc]
theorem ofT_val {ts : Tr} (hv : VT ts) {n : Nat} {pn cn : St} {ls : List Lnk} (h : ofT ts n pn cn = .ok ls) : valL ts ls = (valP (nd ts n).props pn).getD [] := by
  unfold ofT at h
  have e : ts.getD n default = nd ts n := rfl
  rw [e] at h
  cases hz : valP (nd ts n).props pn with
  | none => rw [hz] at h; injection h with h; subst h; rfl
  | some v =>
    rw [hz] at h
    dsimp only at h
    split at h
    · rename_i q; injection h with h; subst h; rw [q]; rfl
    · split at h
      · rename_i q
        unfold cellsOk at q
        rw [Bool.and_eq_true] at q
        rw [ofF_val hv _ _ _ ls (Nat.le_refl _) h, cells_back v (by simpa using q.2)]
        rfl
      · cases h
theorem allT_val {ts : Tr} (hv : VT ts) {pn cn : St} {ls : List Lnk} (h : allT ts pn cn ts.length = .ok ls) {p : Nat} (hp : p < ts.length) : valL ts (ofNode p ls) = (valP (nd ts p).props pn).getD [] :=
  ofT_val hv ((allT_node _ _ h).2 hp)
/-! Consumers. -/
def consL (p : Int) (ls : List Lnk) : List Int := Lib.compact ((ls.filter (fun x => x.prov == p)).map Lnk.node)
theorem mem_consL {p : Int} {ls : List Lnk} {z : Int} : z ∈ consL p ls ↔ ∃ x ∈ ls, x.node = z ∧ x.prov = p := by
  unfold consL
  rw [mem_compactE, List.mem_map]
  constructor
  · rintro ⟨x, hx, rfl⟩
    obtain ⟨h1, h2⟩ := List.mem_filter.1 hx
    exact ⟨x, h1, rfl, by simpa using h2⟩
  · rintro ⟨x, hx, rfl, h⟩
    exact ⟨x, List.mem_filter.2 ⟨hx, by simpa using h⟩, rfl⟩
/-! Names of properties. -/
/-! limits. -/
def limB (ts : Tr) : Bool := decide (ts.length = 0) || decide (120 < ts.length) || ts.any bigN
theorem limits_any (ts : Tr) (a : Option Addr) (cap : Nat) (w : World) (h : SlOf 3 RNod w a ts) (hf : ts.length ≤ 1000000) :
    Calls Tryz.prog 93 #[.agg #[.slice a ts.length cap]] w (Grows w (.bool (limB ts))) := by
  have H := Lib.hid h
  obtain ⟨v, hv⟩ : ∃ v, limB ts = v := ⟨_, rfl⟩
  have HV := Lib.hid hv
  rw [hv]
  clear h hv
  go_enter Tryz.func93, Tryz.ntmps93
  by_cases l1 : ts.length = 0
  · have V : Hid (v = true) := Lib.hid (by rw [← HV.out]; unfold limB; rw [l1]; rfl)
    have hb : decide (ts.length < 1) = true := by rw [l1]; rfl
    have hb2 : ts.length < 1 := by omega
    go_wp2_with fail
    go_ret
    exact ⟨ret_bool (by rw [V.out]), (Gr.refl _).alloc _⟩
  by_cases l2 : 120 < ts.length
  · have V : Hid (v = true) := Lib.hid (by rw [← HV.out]; unfold limB; rw [show decide (120 < ts.length) = true by simpa using l2]; simp)
    have hb : decide (ts.length < 1) = false := by rw [decide_eq_false_iff_not]; omega
    have hb2 : (120 : Int) < ts.length := by omega
    go_wp2_with fail
    go_ret
    exact ⟨ret_bool (by rw [V.out]), (Gr.refl _).alloc _⟩
  have VE : Hid (v = ts.any bigN) := Lib.hid (by rw [← HV.out]; unfold limB; rw [show decide (120 < ts.length) = false by simpa using l2, show decide (ts.length = 0) = false by simpa using l1]; rfl)
  have l3 : 1 ≤ ts.length := by omega
  have l4 : ts.length ≤ 120 := by omega
  clear l1 l2
  go_wp2_with fail
  go_loopw [20] (fun i wr => ∃ k : Nat, k ≤ ts.length ∧ i = .int .i64 k ∧ (∀ j (hj : j < k) (hjl : j < ts.length), bigN ts[j] = false) ∧ Gr w wr) (fun i _ => ts.length - (intOf i).toNat)
  case atStart => exact ⟨0, Nat.zero_le _, rfl, fun j h => by omega, (Gr.refl _).alloc _⟩
  case round =>
    obtain ⟨k, hk, rfl, ha, hg⟩ := hrel
    have HG := Lib.hid hg
    have HA := Lib.hid ha
    clear hg ha
    by_cases hlt : k < ts.length
    · obtain ⟨b, o, pa, pc, rfl, c0, c1, c2, hps, hpf, hw, hnl⟩ := nods_at (H.out.gr RNod.mono HG.out) k hlt
      obtain ⟨n, hn⟩ : ∃ n, ts[k] = n := ⟨_, rfl⟩
      have HN := Lib.hid hn
      rw [hn] at c0 c1 c2 hps
      have HPS := Lib.hid hps
      have hh := has_of_cell c0
      have BT : Hid (bigN n = true → v = true) := Lib.hid (fun q => by rw [VE.out, List.any_eq_true]; exact ⟨n, by rw [← hn]; exact List.getElem_mem hlt, q⟩)
      clear hn hps hpf hw hnl
      by_cases n24 : 24 < n.props.length
      · have V : Hid (v = true) := Lib.hid (BT.out (by unfold bigN; rw [show decide (24 < n.props.length) = true by simpa using n24]; rfl))
        have nb : (24 : Int) < n.props.length := by omega
        go_wp2_with fail
        go_ret
        exact ⟨ret_bool (by rw [V.out]), HG.out.alloc _⟩
      have n24' : n.props.length ≤ 24 := by omega
      clear n24
      go_wp2_with fail
      obtain ⟨w5, hw5⟩ : ∃ wo, wo = wr := ⟨_, rfl⟩
      rw [← hw5] at HG HPS
      go_loopw [31] (fun i wr => ∃ m : Nat, m ≤ n.props.length ∧ i = .int .i64 m ∧ (∀ j (hj : j < m) (hjl : j < n.props.length), n.props[j].val.length ≤ 256) ∧ Gr w5 wr) (fun i _ => n.props.length - (intOf i).toNat)
      case atStart => exact ⟨0, Nat.zero_le _, rfl, fun j h => by omega, by rw [hw5]; exact (Gr.refl _).alloc _⟩
      case round =>
        clear hw5
        obtain ⟨m, hm, rfl, hb, hg⟩ := hrel
        have HJ := Lib.hid hg
        have HB := Lib.hid hb
        clear hg hb
        by_cases hml : m < n.props.length
        · obtain ⟨b2, o2, rfl, d0, d1, l0, l1⟩ := prps_at (HPS.out.gr RPrp.mono HJ.out) m hml
          have hh2 := has_of_cell d0
          obtain ⟨q, hq⟩ : ∃ q, n.props[m] = q := ⟨_, rfl⟩
          have HQ := Lib.hid hq
          rw [hq] at d0 d1
          clear hq l0 l1
          by_cases v256 : 256 < q.val.length
          · have V : Hid (v = true) := Lib.hid (BT.out (by
              unfold bigN
              rw [Bool.or_eq_true, List.any_eq_true]
              exact .inr ⟨q, by rw [← HQ.out]; exact List.getElem_mem hml, by simpa using v256⟩))
            have nb : (256 : Int) < q.val.length := by omega
            go_wp2_with fail
            go_ret
            exact ⟨ret_bool (by rw [V.out]), HG.out.trans (HJ.out.alloc _)⟩
          · have nb : (q.val.length : Int) ≤ 256 := by omega
            have NB : Hid (q.val.length ≤ 256) := Lib.hid (by omega)
            clear v256
            go_wp2_with fail
            go_roundw
            case rel => exact ⟨m + 1, by omega, by go_num, fun j hj hjl => (by
              by_cases e : j = m
              · subst e; rw [HQ.out]; exact NB.out
              · exact HB.out j (by omega) hjl), HJ.out.alloc _⟩
            case measure => simp [intOf]; omega
        · have BF : Hid (bigN n = false) := Lib.hid (by
            unfold bigN
            rw [show decide (24 < n.props.length) = false by simpa using n24', Bool.false_or, List.any_eq_false]
            intro x hx
            obtain ⟨j, hj, rfl⟩ := List.getElem_of_mem hx
            have := HB.out j (by omega) hj
            simpa using this)
          go_wp2_with fail
          go_roundw
          case rel => exact ⟨k + 1, by omega, by go_num, fun j hj hjl => (by
            by_cases e : j = k
            · subst e; rw [HN.out]; exact BF.out
            · exact HA.out j (by omega) hjl), HG.out.trans HJ.out⟩
          case measure => simp [intOf]; omega
    · have V : Hid (v = false) := Lib.hid (by
        rw [VE.out, List.any_eq_false]
        intro x hx
        obtain ⟨j, hj, rfl⟩ := List.getElem_of_mem hx
        rw [HA.out j (by omega) hj]
        decide)
      go_wp2_with fail
      go_ret
      exact ⟨ret_bool (by rw [V.out]), HG.out⟩
theorem rnumber_any (n : Nat) (w : World) (hn : n < 4294967296) : Calls Tryz.prog 40 #[.int .i64 n] w (Grows w (.string (bs (cell4 n)))) := by
  have hc := run_convert_bytes_arg (P := Tryz.prog) (w.alloc (.cells #[.int .u8 ((n : Int) / 16777216), .int .u8 ((n : Int) / 65536 % 256), .int .u8 ((n : Int) / 256 % 256), .int .u8 ((n : Int) % 256)] 5)) 112 5 Tryz.underlying112 Tryz.underlying5 w.heap.size 0 4 4 [(n : Int) / 16777216, (n : Int) / 65536 % 256, (n : Int) / 256 % 256, (n : Int) % 256] rfl
    (fun i hi => by
      have := (Row.new w #[.int .u8 ((n : Int) / 16777216), .int .u8 ((n : Int) / 65536 % 256), .int .u8 ((n : Int) / 256 % 256), .int .u8 ((n : Int) % 256)] 5).cell i (by simpa using hi)
      rw [Nat.zero_add, this]
      match i, hi with
      | 0, _ => rfl
      | 1, _ => rfl
      | 2, _ => rfl
      | 3, _ => rfl) 9 Tryz.underlying9
  rw [str4] at hc
  go_enter Tryz.func40, Tryz.ntmps40
  go_wp2_with fail
  go_ret
  exact ⟨rfl, (Gr.refl _).alloc _⟩
theorem con_val {ps : List Prp} (hn : (ps.map Prp.name).Nodup) (c : St) : ps.contains ⟨phS, c⟩ = decide (valP ps phS = some c) := by
  rw [Bool.eq_iff_iff, List.contains_iff_mem, decide_eq_true_eq]
  constructor
  · intro h
    exact valP_mem hn h
  · intro h
    unfold valP at h
    cases e : ps.find? (fun p => p.name == phS) with
    | none => rw [e] at h; cases h
    | some p =>
      rw [e] at h
      have hv : p.val = c := Option.some.inj h
      have hm := List.mem_of_find?_eq_some e
      have hnm : p.name = phS := by simpa using List.find?_some e
      have : p = ⟨phS, c⟩ := by rw [← hnm, ← hv]
      rw [← this]
      exact hm
theorem rPhandle_ok (ts : Tr) (a : Option Addr) (cap : Nat) (p : Int) (w : World) (h : SlOf 3 RNod w a ts) (hv : VT ts) :
    Calls Tryz.prog 98 #[.agg #[.slice a ts.length cap], .int .i64 p] w
      (Grows w (.tuple #[.int .i64 (((phan ts p).getD 0 : Nat) : Int), .bool (phan ts p).isSome])) := by
  have H := Lib.hid h
  have HV := Lib.hid hv
  have l2 := hv.few
  clear h hv
  obtain ⟨P0, hP0⟩ : ∃ P : Ending → World → Prop, P = Grows w (.tuple #[.int .i64 (((phan ts p).getD 0 : Nat) : Int), .bool (phan ts p).isSome]) := ⟨_, rfl⟩
  rw [← hP0]
  have HP0 := Lib.hid hP0
  clear hP0
  go_enter Tryz.func98, Tryz.ntmps98
  go_wp2_with fail
  have RX := Lib.hid (Row.new w #[.slice a ts.length cap] 31)
  obtain ⟨W, hW⟩ : ∃ W : World, Hid (W = w.alloc (.cells #[.slice a ts.length cap] 31)) := ⟨_, Lib.hid rfl⟩
  have GW : Hid (Gr w W) := Lib.hid (by rw [hW.out]; exact (Gr.refl _).alloc _)
  rw [← hW.out] at RX ⊢
  obtain ⟨PB, hPB⟩ : ∃ N : Nat, Hid (w.heap.size = N) := ⟨_, Lib.hid rfl⟩
  rw [hPB.out] at RX ⊢
  clear hW hPB
  refine (rCheck_ok ts a cap W (H.out.gr RNod.mono GW.out) HV.out).mono ?_
  rintro e w1 ⟨rfl, hg1⟩
  have G1 := Lib.hid (GW.out.trans hg1)
  have RX1 := Lib.hid (RX.out.gr hg1)
  clear hg1 RX GW
  have x0 := RX1.out.cell 0 (by simp)
  simp only [List.getElem_cons_zero] at x0
  have hx := has_of_cell x0
  by_cases hp1 : p < 1
  · have PN : Hid (phan ts p = none) := Lib.hid (by unfold phan; rw [if_neg (by omega)])
    have kb : decide (p < 1) = true := by simpa using hp1
    clear hp1
    go_wp2_with fail
    rw [HP0.out, PN.out]
    exact ⟨rfl, G1.out⟩
  by_cases hp2 : 1048576 < p
  · have PN : Hid (phan ts p = none) := Lib.hid (by unfold phan; rw [if_neg (by omega)])
    have kb : decide (p < 1) = false := by simpa using hp1
    have kc : decide (1048576 < p) = true := by simpa using hp2
    clear hp1 hp2
    go_wp2_with fail
    rw [HP0.out, PN.out]
    exact ⟨rfl, G1.out⟩
  obtain ⟨n, rfl⟩ : ∃ n : Nat, p = n := ⟨p.toNat, by omega⟩
  have N1 : Hid (1 ≤ n ∧ n ≤ 1048576) := Lib.hid (by omega)
  have PH : Hid (phan ts (n : Int) = ts.findIdx? (fun x => x.props.contains ⟨phS, cell4 n⟩)) := Lib.hid (by unfold phan; rw [if_pos (by omega), Int.toNat_natCast])
  have kb : decide ((n : Int) < 1) = false := by simpa using hp1
  have kb2 : decide (n < 1) = false := by rw [decide_eq_false_iff_not]; omega
  have kc : decide ((1048576 : Int) < n) = false := by simpa using hp2
  have kc2 : decide (1048576 < n) = false := by rw [decide_eq_false_iff_not]; omega
  clear hp1 hp2
  go_wp2_with fail
  clear x0 hx kb kb2 kc kc2
  go_loopw [24] (fun i wr => ∃ k : Nat, k ≤ ts.length ∧ i = .int .i64 (k : Int) ∧ (∀ j (hj : j < k) (hjl : j < ts.length), ts[j].props.contains ⟨phS, cell4 n⟩ = false) ∧ Gr w wr) (fun i _ => ts.length - (intOf i).toNat)
  case atStart => exact ⟨0, Nat.zero_le _, rfl, fun j h => by omega, G1.out⟩
  case round =>
    obtain ⟨k, hk, rfl, ha, hg⟩ := hrel
    have HG := Lib.hid hg
    have HA := Lib.hid ha
    clear hg ha
    by_cases hlt : k < ts.length
    · obtain ⟨b, o, pa, pc, rfl, c0, c1, c2, hps, hpf, hw, hnl⟩ := nods_at (H.out.gr RNod.mono HG.out) k hlt
      have CV : Hid (ts[k].props.contains ⟨phS, cell4 n⟩ = decide (valP ts[k].props phS = some (cell4 n))) := Lib.hid (con_val (by have q := vt_nodup HV.out hlt; rwa [nd_get hlt] at q) _)
      have N12 : Hid (ts[k].props.length ≤ 12) := Lib.hid (HV.out.fits _ (List.getElem_mem hlt))
      obtain ⟨nk, hnk⟩ : ∃ t, ts[k] = t := ⟨_, rfl⟩
      have HNK := Lib.hid hnk
      rw [hnk] at c0 c1 c2 hps CV N12
      have HPS := Lib.hid hps
      have hh := has_of_cell c0
      have HLT := Lib.hid hlt
      have kn : (k : Int) < (ts.length : Int) := by omega
      clear hnk hps hpf hw hnl
      go_upto_region 6 with (fail)
      have BX := Lib.hid (Row.new wr #[.int .i64 nk.parent, .string (bs nk.name), .slice pa nk.props.length pc] 55)
      obtain ⟨W6, hW6⟩ : ∃ W : World, Hid (W = wr.alloc (.cells #[.int .i64 nk.parent, .string (bs nk.name), .slice pa nk.props.length pc] 55)) := ⟨_, Lib.hid rfl⟩
      have G6 : Hid (Gr wr W6) := Lib.hid (by rw [hW6.out]; exact (Gr.refl _).alloc _)
      rw [← hW6.out] at BX ⊢
      obtain ⟨PX, hPX⟩ : ∃ N : Nat, Hid (wr.heap.size = N) := ⟨_, Lib.hid rfl⟩
      rw [hPX.out] at BX ⊢
      clear hW6 hPX c0 c1 c2 hh
      have y0 := BX.out.cell 0 (by simp)
      have y1 := BX.out.cell 1 (by simp)
      have y2 := BX.out.cell 2 (by simp)
      simp only [List.getElem_cons_zero, List.getElem_cons_succ] at y0 y1 y2
      have hy := has_of_cell y0
      go_wp2_with fail
      refine (rOf_any nk pa pc [112, 104, 97, 110, 100, 108, 101] W6 (HPS.out.gr RPrp.mono G6.out) (by have := N12.out; omega)).mono ?_
      intro e w7 hgv
      clear y0 y1 y2 hy
      cases hz : valP nk.props [112, 104, 97, 110, 100, 108, 101] with
      | none =>
        rw [hz] at hgv
        obtain ⟨hg7, rfl⟩ := hgv
        have CF : Hid (nk.props.contains ⟨phS, cell4 n⟩ = false) := Lib.hid (by rw [CV.out, show valP nk.props phS = none from hz]; rfl)
        have G7 := Lib.hid (HG.out.trans (G6.out.trans hg7))
        clear hg7 hz
        go_wp2_with fail
        go_roundw
        case rel => exact ⟨k + 1, by have := HLT.out; omega, by go_num, fun j hj hjl => (by
          by_cases e : j = k
          · subst e; rw [HNK.out]; exact CF.out
          · exact HA.out j (by omega) hjl), G7.out⟩
        case measure => simp [intOf]; have := HLT.out; omega
      | some v =>
        rw [hz] at hgv
        obtain ⟨hg7, rfl⟩ := hgv
        have HZ := Lib.hid hz
        have G7 := Lib.hid (HG.out.trans (G6.out.trans hg7))
        clear hg7 hz
        go_wp2_with fail
        refine (rnumber_any n w7 (by have := N1.out; omega)).mono ?_
        rintro e w8 ⟨rfl, hg8⟩
        have G8 := Lib.hid (G7.out.trans hg8)
        obtain ⟨c4, hc4⟩ : ∃ c, cell4 n = c := ⟨_, rfl⟩
        have HC4 := Lib.hid hc4
        rw [hc4]
        clear hg8 hc4
        by_cases hvc : v = c4
        · have hb : (v == c4) = true := beq_iff_eq.2 hvc
          have CF : Hid (nk.props.contains ⟨phS, cell4 n⟩ = true) := Lib.hid (by rw [CV.out, show valP nk.props phS = some v from HZ.out, hvc, HC4.out]; simp)
          subst hvc
          clear hb
          go_wp2_with fail
          have e : phan ts (n : Int) = some k := by
            rw [PH.out, List.findIdx?_eq_some_iff_getElem]
            exact ⟨HLT.out, by rw [HNK.out]; exact CF.out, fun j hj => by rw [HA.out j hj (by have := HLT.out; omega)]; decide⟩
          rw [HP0.out, e]
          exact ⟨rfl, G8.out⟩
        · have hb : (v == c4) = false := by rw [beq_eq_false_iff_ne]; exact hvc
          have CF : Hid (nk.props.contains ⟨phS, cell4 n⟩ = false) := Lib.hid (by rw [CV.out, show valP nk.props phS = some v from HZ.out, HC4.out]; simpa using hvc)
          clear hvc
          go_wp2_with fail
          go_roundw
          case rel => exact ⟨k + 1, by have := HLT.out; omega, by go_num, fun j hj hjl => (by
            by_cases e : j = k
            · subst e; rw [HNK.out]; exact CF.out
            · exact HA.out j (by omega) hjl), G8.out⟩
          case measure => simp [intOf]; have := HLT.out; omega
    · have kn : ¬ (k : Int) < (ts.length : Int) := by omega
      have PN : Hid (phan ts (n : Int) = none) := Lib.hid (by
        rw [PH.out, List.findIdx?_eq_none_iff]
        intro x hx
        obtain ⟨j, hj, rfl⟩ := List.getElem_of_mem hx
        exact HA.out j (by omega) hj)
      clear hlt
      go_wp2_with fail
      rw [HP0.out, PN.out]
      exact ⟨rfl, HG.out⟩
theorem rArgs_any (ts : Tr) (i : Nat) (pa : Option Addr) (pc : Nat) (cn : St) (w : World) (hi : i < ts.length) (hv : VT ts) (hs : SlOf 2 RPrp w pa ts[i].props) :
    Calls Tryz.prog 99 #[.agg #[.int .i64 ts[i].parent, .string (bs ts[i].name), .slice pa ts[i].props.length pc], .string (bs cn)] w (Grows w (.int .i64 ((argsN ts i cn).getD (-1)))) := by
  have NE : Hid (ts.getD i default = ts[i]) := Lib.hid (by rw [List.getD_eq_getElem?_getD, List.getElem?_eq_getElem hi]; rfl)
  have LV : Hid (∀ v, valP ts[i].props cn = some v → v.length ≤ 256) := Lib.hid fun v hz => by
    unfold valP at hz
    cases e : ts[i].props.find? (fun p => p.name == cn) with
    | none => rw [e] at hz; cases hz
    | some p => rw [e] at hz; cases hz; exact hv.vals _ (List.getElem_mem hi) p (List.mem_of_find?_eq_some e)
  have N12 : Hid (ts[i].props.length ≤ 12) := Lib.hid (hv.fits _ (List.getElem_mem hi))
  have AN : Hid (argsN ts i cn = match valP ts[i].props cn with | none => some 0 | some v => if cellsOk v = true ∧ (cellsL v).length = 1 ∧ (cellsL v).getD 0 0 ≤ 8 then some ((cellsL v).getD 0 0) else none) := Lib.hid (by unfold argsN; rw [NE.out]; rfl)
  obtain ⟨r, hr⟩ : ∃ r, argsN ts i cn = r := ⟨_, rfl⟩
  rw [hr] at AN ⊢
  obtain ⟨n, hn⟩ : ∃ n, ts[i] = n := ⟨_, rfl⟩
  rw [hn] at hs LV N12 AN ⊢
  have HS := Lib.hid hs
  clear hs hr hn NE
  obtain ⟨P0, hP0⟩ : ∃ P : Ending → World → Prop, P = Grows w (.int .i64 (r.getD (-1))) := ⟨_, rfl⟩
  rw [← hP0]
  have HP0 := Lib.hid hP0
  clear hP0
  go_enter Tryz.func99, Tryz.ntmps99
  go_wp2_with fail
  refine (rOf_any n pa pc cn _ (HS.out.gr RPrp.mono ((Gr.refl _).alloc _)) (by have := N12.out; omega)).mono ?_
  intro e w1 hgv
  cases hz : valP n.props cn with
  | none =>
    rw [hz] at hgv AN
    obtain ⟨hg, rfl⟩ := hgv
    have G1 : Hid (Gr w w1) := Lib.hid (((Gr.refl _).alloc _).trans hg)
    clear hg hz
    go_wp2_with fail
    rw [HP0.out, AN.out]
    exact ⟨rfl, G1.out⟩
  | some v =>
    rw [hz] at hgv AN
    have lv := LV.out v hz
    obtain ⟨hg, rfl⟩ := hgv
    have G1 : Hid (Gr w w1) := Lib.hid (((Gr.refl _).alloc _).trans hg)
    clear hg hz
    go_wp2_with fail
    refine (rCells_any v w1 (by omega)).mono ?_
    intro e w2 hgv
    unfold GivesCells at hgv
    by_cases hok : cellsOk v = true
    · rw [if_pos hok] at hgv
      obtain ⟨x, rfl, ho, hg⟩ := hgv
      have OK := Lib.hid hok
      have GG : Hid (Gr w w2) := Lib.hid (G1.out.trans hg)
      obtain ⟨xa, xc, rfl, _, hsl⟩ := ints_at ho (cells_wide v)
      have SL := Lib.hid hsl
      clear hg hok ho hsl
      by_cases hl : (cellsL v).length = 1
      · obtain ⟨z, hz⟩ : ∃ z, cellsL v = [z] := List.length_eq_one_iff.1 hl
        have BZ := cells_bound v z (by rw [hz]; simp)
        rw [hz] at SL AN ⊢
        obtain ⟨b, o, rfl, c0, _⟩ := SL.out.one 0 (by simp)
        simp only [List.getElem_cons_zero, Nat.add_zero] at c0
        have hh := has_of_cell c0
        by_cases h8 : z ≤ 8
        · have R2 : Hid (r = some z) := Lib.hid (by rw [AN.out]; (try dsimp only); rw [if_pos ⟨OK.out, rfl, by simpa using h8⟩]; rfl)
          have kb : decide (8 < z) = false := by simp; omega
          clear h8 hl hz
          go_wp2_with fail
          rw [HP0.out, R2.out]
          exact ⟨rfl, GG.out⟩
        · have R2 : Hid (r = none) := Lib.hid (by rw [AN.out]; (try dsimp only); rw [if_neg (by rintro ⟨_, _, q⟩; exact h8 (by simpa using q))])
          have kb : decide (8 < z) = true := by simp; omega
          clear h8 hl hz
          go_wp2_with fail
          rw [HP0.out, R2.out]
          exact ⟨rfl, GG.out⟩
      · have R2 : Hid (r = none) := Lib.hid (by rw [AN.out]; (try dsimp only); rw [if_neg (by rintro ⟨_, q, _⟩; exact hl q)])
        have kb : ((cellsL v).length == 1) = false := by rw [beq_eq_false_iff_ne]; exact hl
        have kb1 : (((cellsL v).length : Int) == 1) = false := by rw [beq_eq_false_iff_ne]; omega
        have kb2 : (((cellsL v).length : Int) != 1) = true := by rw [bne_iff_ne]; omega
        clear hl
        go_wp2_with fail
        rw [HP0.out, R2.out]
        exact ⟨rfl, GG.out⟩
    · rw [if_neg hok] at hgv
      obtain ⟨rfl, hg⟩ := hgv
      have GG : Hid (Gr w w2) := Lib.hid (G1.out.trans hg)
      have R2 : Hid (r = none) := Lib.hid (by rw [AN.out]; (try dsimp only); rw [if_neg (by rintro ⟨q, _, _⟩; exact hok q)])
      clear hg hok
      go_wp2_with fail
      rw [HP0.out, R2.out]
      exact ⟨rfl, GG.out⟩
theorem ofF_step1 {ts : Tr} {node : Int} {pn cn : St} {f : Nat} {p : Int} {l : List Int} {out : List Lnk} : ofF ts node pn cn (f + 1) (p :: l) out = match phan ts p with | none => .error 25 | some k => match argsN ts k cn with | none => .error 26 | some n => if (l.length : Int) < n then .error 26 else ofF ts node pn cn f (l.drop n.toNat) (out ++ [⟨node, k, pn, out.length, l.take n.toNat⟩]) := rfl
theorem rof_ok (ts : Tr) (a : Option Addr) (cap i : Nat) (pn cn : St) (w : World) (h : SlOf 3 RNod w a ts) (hv : VT ts) (hi : i < ts.length) :
    Calls Tryz.prog 50 #[.agg #[.slice a ts.length cap], .int .i64 i, .string (bs pn), .string (bs cn)] w (GivesLks w (ofT ts i pn cn)) := by
  have H := Lib.hid h
  have HV := Lib.hid hv
  have h120 := hv.few
  have NE : Hid (ts.getD i default = ts[i]) := Lib.hid (by rw [List.getD_eq_getElem?_getD, List.getElem?_eq_getElem hi]; rfl)
  have LV : Hid (∀ v, valP ts[i].props pn = some v → v.length ≤ 256) := Lib.hid fun v hz => by
    unfold valP at hz
    cases e : ts[i].props.find? (fun p => p.name == pn) with
    | none => rw [e] at hz; cases hz
    | some p => rw [e] at hz; cases hz; exact hv.vals _ (List.getElem_mem hi) p (List.mem_of_find?_eq_some e)
  have N12 : Hid (∀ k (hk : k < ts.length), ts[k].props.length ≤ 12) := Lib.hid (fun k hk => hv.fits _ (List.getElem_mem hk))
  have OT : Hid (ofT ts i pn cn = match valP ts[i].props pn with | none => .ok [] | some v => if v = [] then .ok [] else if cellsOk v then ofF ts i pn cn (cellsL v).length (cellsL v) [] else .error 26) := Lib.hid (by unfold ofT; rw [NE.out]; rfl)
  obtain ⟨j0, hj, hy0, hy1, hy2⟩ := info_parts infoLnk
  obtain ⟨i0, hi0, hz0, hz1, hz2⟩ := info_parts infoInt
  obtain ⟨R, hR⟩ : ∃ R, ofT ts i pn cn = R := ⟨_, rfl⟩
  rw [hR] at OT ⊢
  obtain ⟨P0, hP0⟩ : ∃ P : Ending → World → Prop, P = GivesLks w R := ⟨_, rfl⟩
  rw [← hP0]
  have HP0 := Lib.hid hP0
  have EMP : Hid (R = .ok [] → ∀ w', Gr w w' → P0 (.returned (.tuple #[.slice none 0 0, .int .i64 0])) w') := Lib.hid fun q w' hg => by
    rw [hP0, q]; exact ⟨_, [], rfl, rfl, World.ownsRow_nil _ _ _ _, LRows.nil _ _, hg⟩
  have ERR : Hid (∀ k, R = .error k → ∀ w', Gr w w' → P0 (.returned (.tuple #[.slice none 0 0, .int .i64 k])) w') := Lib.hid fun k q w' hg => by
    rw [hP0, q]; exact ⟨rfl, hg⟩
  clear hP0 h hv hR NE
  go_enter Tryz.func50, Tryz.ntmps50
  go_upto_region 1 with (fail)
  have RB := Lib.hid (Row.new w #[.slice a ts.length cap] 31)
  obtain ⟨W1, hW1⟩ : ∃ W : World, Hid (W = w.alloc (.cells #[.slice a ts.length cap] 31)) := ⟨_, Lib.hid rfl⟩
  have G1 : Hid (Gr w W1) := Lib.hid (by rw [hW1.out]; exact (Gr.refl _).alloc _)
  rw [← hW1.out] at RB ⊢
  obtain ⟨PB, hPB⟩ : ∃ N : Nat, Hid (w.heap.size = N) := ⟨_, Lib.hid rfl⟩
  rw [hPB.out] at RB ⊢
  clear hW1
  obtain ⟨b, o, pa, pc, ea, c0, c1, c2, hps, hpf, hw, hnl⟩ := nods_at (H.out.gr RNod.mono G1.out) i hi
  subst ea
  have NI := Lib.hid (N12.out i hi)
  obtain ⟨ni, hni⟩ : ∃ t, ts[i] = t := ⟨_, rfl⟩
  rw [hni] at c0 c1 c2 hps LV NI OT
  have HPS := Lib.hid hps
  have hh := has_of_cell c0
  have x0 := RB.out.cell 0 (by simp)
  simp only [List.getElem_cons_zero] at x0
  have hx := has_of_cell x0
  have kn : (i : Int) < (ts.length : Int) := by omega
  clear hni hps hpf hw hnl
  go_wp2_with fail
  refine (rOf_any ni pa pc pn W1 HPS.out (by have := NI.out; omega)).mono ?_
  intro e w2 hgv
  clear c0 c1 c2 hh x0 hx
  cases hz : valP ni.props pn with
  | none =>
    rw [hz] at hgv OT
    obtain ⟨hg, rfl⟩ := hgv
    have G2 := Lib.hid (G1.out.trans hg)
    clear hg hz
    go_wp2_with fail
    refine (rCells_any [] w2 (by simp)).mono ?_
    intro e w3 hgv
    unfold GivesCells at hgv
    rw [if_neg (by decide)] at hgv
    obtain ⟨rfl, hg⟩ := hgv
    have G3 := Lib.hid (G2.out.trans hg)
    clear hg
    go_wp2_with fail
    go_loopw [14, 15] (fun x s wr => x = .slice none 0 0 ∧ s = .int .i64 0 ∧ Gr w wr) (fun _ _ _ => 0)
    case atStart => exact ⟨rfl, rfl, G3.out⟩
    case round =>
      obtain ⟨rfl, rfl, hg⟩ := hrel
      have HG := Lib.hid hg
      clear hg
      go_wp2_with fail
      exact EMP.out OT.out _ HG.out
  | some v =>
    rw [hz] at hgv OT
    have lv := LV.out v hz
    obtain ⟨hg, rfl⟩ := hgv
    have G2 := Lib.hid (G1.out.trans hg)
    have RB2 := Lib.hid (RB.out.gr hg)
    clear hg hz
    go_wp2_with fail
    refine (rCells_any v w2 (by omega)).mono ?_
    intro e w3 hgv
    unfold GivesCells at hgv
    by_cases hv0 : v = []
    · subst hv0
      rw [if_neg (by decide)] at hgv
      have OT := Lib.hid (show R = .ok [] from OT.out)
      obtain ⟨rfl, hg⟩ := hgv
      have G3 := Lib.hid (G2.out.trans hg)
      clear hg
      go_wp2_with fail
      go_loopw [14, 15] (fun x s wr => x = .slice none 0 0 ∧ s = .int .i64 0 ∧ Gr w wr) (fun _ _ _ => 0)
      case atStart => exact ⟨rfl, rfl, G3.out⟩
      case round =>
        obtain ⟨rfl, rfl, hg⟩ := hrel
        have HG := Lib.hid hg
        clear hg
        go_wp2_with fail
        exact EMP.out OT.out _ HG.out
    · have hb1 : (v == []) = false := by rw [beq_eq_false_iff_ne]; exact hv0
      have hb2 : (v != []) = true := by simp [bne, hb1]
      have OT2 : Hid (R = if cellsOk v then ofF ts i pn cn (cellsL v).length (cellsL v) [] else .error 26) := Lib.hid (by rw [OT.out]; (try dsimp only); rw [if_neg hv0])
      clear OT
      by_cases hok : cellsOk v = true
      · rw [if_pos hok] at hgv OT2
        obtain ⟨x, rfl, ho, hg⟩ := hgv
        have G3 := Lib.hid (G2.out.trans hg)
        have RB3 := Lib.hid (RB2.out.gr hg)
        obtain ⟨xa, xc, rfl, hxc, hsl⟩ := ints_at ho (cells_wide v)
        have hpos : 0 < (cellsL v).length := by
          rw [cellsL_length]; simp [cellsOk] at hok; have : 0 < v.length := List.length_pos_iff.2 hok.1; omega
        obtain ⟨g, o2, rfl, hzz⟩ := hsl 0 hpos
        have SL := Lib.hid hsl
        have TY : Hid (Ty w3 g 3) := Lib.hid (owns_ty ho rfl)
        have WD := Lib.hid (cells_wide v)
        have LC : Hid ((cellsL v).length ≤ 64) := Lib.hid (by rw [cellsL_length]; omega)
        obtain ⟨l, hl⟩ : ∃ l, cellsL v = l := ⟨_, rfl⟩
        rw [hl] at SL OT2 WD LC hxc ⊢
        have hposA : Hid (0 < l.length) := Lib.hid (by rw [← hl]; exact hpos)
        clear hok ho hg hsl hzz hpos hl RB2
        obtain ⟨L, hL⟩ : ∃ N : Nat, Hid (l.length = N) := ⟨_, Lib.hid rfl⟩
        rw [hL.out] at LC hxc ⊢
        have l64 := LC.out
        have hpos0 : Hid (0 < L) := Lib.hid (by rw [← hL.out]; exact hposA.out)
        go_wp2_with fail
        have hpos : 0 < L := by
          have := hpos0.out
          omega
        clear hv0 hb1 hb2
        go_loopw [14, 15] (fun x s wr => ∃ (k f : Nat) (ls : List LT), k ≤ L ∧ s = .int .i64 (k : Int) ∧ R = ofF ts i pn cn f (l.drop k) (lks ls) ∧ L ≤ f + k ∧ ls.length ≤ k ∧ wr.ownsRow w.heap.size 40 5 x ls.length (encLks ls) ∧ LRows wr w.heap.size ls ∧ SlOf 1 RI wr (some ⟨g, o2, none⟩) l ∧ Ty wr g 3 ∧ Row wr PB 31 [.slice (some ⟨b, o, none⟩) ts.length cap] ∧ Gr w wr) (fun _ s _ => L - (intOf s).toNat)
        case atStart => exact ⟨0, L, [], Nat.zero_le _, rfl, by rw [OT2.out, hL.out]; rfl, by omega, by simp, World.ownsRow_nil _ _ _ _, LRows.nil _ _, SL.out, TY.out, RB3.out, G3.out⟩
        case round =>
          clear SL TY RB3 G3 OT2 G2 RB
          obtain ⟨k, f, ls, hk, rfl, hof, hfk, hlk, ho, hlr, hsl, hty, hrb, hg⟩ := hrel
          obtain ⟨va, vc, rfl⟩ := owns_slice ho
          have OF := Lib.hid hof
          have OW := Lib.hid ho
          have LR := Lib.hid hlr
          have SL := Lib.hid hsl
          have TY := Lib.hid hty
          have HRB := Lib.hid hrb
          have HG := Lib.hid hg
          have b0 := hrb.cell 0 (by simp)
          simp only [List.getElem_cons_zero] at b0
          have hh := has_of_cell b0
          have LS : ls.length ≤ 64 := by omega
          clear hof ho hlr hsl hty hrb hg
          by_cases hlt : k < L
          · have hkl : k < l.length := by rw [hL.out]; exact hlt
            obtain ⟨f, rfl⟩ : ∃ q, f = q + 1 := ⟨f - 1, by omega⟩
            obtain ⟨g', o', e', d0⟩ := SL.out.one k hkl
            cases e'
            have d1 := d0.1
            have hh2 := has_of_cell d1
            have DR : Hid (l.drop k = l[k] :: l.drop (k + 1)) := Lib.hid (List.drop_eq_getElem_cons hkl)
            obtain ⟨p, hp⟩ : ∃ p, l[k] = p := ⟨_, rfl⟩
            rw [hp] at d1 DR
            rw [DR.out] at OF
            have OF2 : Hid (R = match phan ts p with | none => .error 25 | some kk => match argsN ts kk cn with | none => .error 26 | some n => if ((l.drop (k + 1)).length : Int) < n then .error 26 else ofF ts i pn cn f ((l.drop (k + 1)).drop n.toNat) (lks ls ++ [⟨i, kk, pn, (lks ls).length, (l.drop (k + 1)).take n.toNat⟩])) := Lib.hid (by rw [OF.out, ofF_step1])
            have kL : (k : Int) < (L : Int) := by omega
            have HLT := Lib.hid hlt
            have HFK := Lib.hid (And.intro hfk hlk)
            clear d0 hp hlt OF DR hfk hlk hpos
            go_wp2_with fail
            refine wp_region_grows (by kernel_rfl) (by kernel_rfl) ?_
            repeat (go_big_quiet_step (first | (go_at_call 98; exact calls_grows (rPhandle_ok ts (some ⟨b, o, none⟩) cap p _ (H.out.gr RNod.mono (by repeat (first | with_reducible exact Gr.refl _ | with_reducible exact HG.out | with_reducible refine Gr.xt _ _ ?_ | with_reducible refine Gr.alloc _ ?_))) HV.out))))
            refine wpQuiet_nil ?_
            rintro _ ⟨⟨O, d9⟩, rfl⟩
            have G5 : Hid (Gr wr (xt wr O d9)) := Lib.hid ((Gr.refl _).xt _ _)
            obtain ⟨W5, hW5⟩ : ∃ W : World, Hid (W = xt wr O d9) := ⟨_, Lib.hid rfl⟩
            have hW5' := hW5.out
            rw [← hW5'] at G5 ⊢
            have HG5 := Lib.hid (HG.out.trans G5.out)
            have SL5 := Lib.hid (SL.out.giI G5.out)
            have OW5 := Lib.hid (Gr.owns OW.out G5.out)
            have LR5 := Lib.hid (LR.out.gr G5.out)
            have TY5 := Lib.hid (TY.out.gr G5.out)
            have HRB5 := Lib.hid (HRB.out.gr G5.out)
            clear b0 hh d1 hh2 hW5' hW5 SL OW LR TY HRB HG G5
            cases hph : phan ts p with
            | none =>
              rw [hph] at OF2
              clear hph
              go_wp2_with fail
              exact ERR.out 25 OF2.out _ HG5.out
            | some kk =>
              have hkk := phan_lt hph
              rw [hph] at OF2
              have b5 := HRB5.out.cell 0 (by simp)
              simp only [List.getElem_cons_zero] at b5
              have hh5 := has_of_cell b5
              obtain ⟨bb, oo, pa2, pc2, ea, c0, c1, c2, hps, hpf, hw, hnl⟩ := nods_at (H.out.gr RNod.mono HG5.out) kk hkk
              cases ea
              have RA := Lib.hid (rArgs_any ts kk pa2 pc2 cn W5 hkk HV.out hps)
              obtain ⟨nk, hnk⟩ : ∃ t, ts[kk] = t := ⟨_, rfl⟩
              rw [hnk] at c0 c1 c2 RA
              have hc0 := has_of_cell c0
              have kn2 : (kk : Int) < (ts.length : Int) := by omega
              clear hph hnk hps hpf hw hnl
              go_wp2_with fail
              refine RA.out.mono ?_
              rintro e w6 ⟨rfl, hg6⟩
              have HG6 := Lib.hid (HG5.out.trans hg6)
              have SL6 := Lib.hid (SL5.out.giI hg6)
              have OW6 := Lib.hid (Gr.owns OW5.out hg6)
              have LR6 := Lib.hid (LR5.out.gr hg6)
              have TY6 := Lib.hid (TY5.out.gr hg6)
              have HRB6 := Lib.hid (HRB5.out.gr hg6)
              clear hg6 b5 hh5 c0 c1 c2 hc0 HG5 SL5 OW5 LR5 TY5 HRB5 RA
              cases han : argsN ts kk cn with
              | none =>
                rw [han] at OF2
                clear han
                go_wp2_with fail
                exact ERR.out 26 OF2.out _ HG6.out
              | some n =>
                obtain ⟨n0, n8⟩ := argsN_le han
                rw [han] at OF2
                clear han
                obtain ⟨q, rfl⟩ : ∃ q : Nat, n = q := ⟨n.toNat, by omega⟩
                have RL : Hid ((l.drop (k + 1)).length = L - k - 1) := Lib.hid (by rw [List.length_drop, hL.out]; omega)
                have OF2 : Hid (R = if ((L - k - 1 : Nat) : Int) < (q : Int) then .error 26 else ofF ts i pn cn f ((l.drop (k + 1)).drop q) (lks ls ++ [⟨i, kk, pn, (lks ls).length, (l.drop (k + 1)).take q⟩])) := Lib.hid (by rw [OF2.out]; dsimp only; rw [RL.out, Int.toNat_natCast])
                have q8 : q ≤ 8 := by omega
                have kb0 : decide ((q : Int) < 0) = false := by rw [decide_eq_false_iff_not]; omega
                by_cases hlq : L - k - 1 < q
                · have OF3 : Hid (R = .error 26) := Lib.hid (by rw [OF2.out, if_pos (by omega)])
                  have kq : decide ((L : Int) - (k : Int) - 1 < (q : Int)) = true := by simp; omega
                  have kq2 : (L : Int) - (k : Int) - 1 < (q : Int) := by omega
                  clear hlq n0 n8
                  go_wp2_with fail
                  exact ERR.out 26 OF3.out _ HG6.out
                · have kq : decide ((L : Int) - (k : Int) - 1 < (q : Int)) = false := by rw [decide_eq_false_iff_not]; omega
                  have HLQ : Hid (k + 1 + q ≤ L) := Lib.hid (by omega)
                  have OF3 : Hid (R = ofF ts i pn cn f ((l.drop (k + 1)).drop q) (lks ls ++ [⟨i, kk, pn, (lks ls).length, (l.drop (k + 1)).take q⟩])) := Lib.hid (by rw [OF2.out, if_neg (by omega)])
                  have k1 : (k : Int) + 1 + q ≤ L := by omega
                  have kq0 : (k : Int) + 1 ≤ (k : Int) + 1 + q := by omega
                  have k2 : (k : Int) + 1 + q ≤ (xc : Int) := by omega
                  have k3 : (0 : Int) ≤ (k : Int) + 1 + q := by omega
                  have XC : Hid (L ≤ xc) := Lib.hid hxc
                  clear hlq OF2 n0 n8
                  obtain ⟨o4, ho4⟩ : ∃ o4, Hid (o4 = if xc = k + 1 then o2 else o2 + (k + 1)) := ⟨_, Lib.hid rfl⟩
                  have P1 : (if xc = k + 1 then (some ⟨g, o2, none⟩ : Option Addr) else some ⟨g, o2 + (k + 1), none⟩) = some ⟨g, o4, none⟩ := by rw [ho4.out]; split <;> rfl
                  obtain ⟨ar, har⟩ : ∃ ar, (l.drop (k + 1)).take q = ar := ⟨_, rfl⟩
                  have AL : Hid (ar.length = q) := Lib.hid (by rw [← har, List.length_take, RL.out]; have := HLQ.out; omega)
                  have AW : Hid (∀ z ∈ ar, Wide z) := Lib.hid (fun z hz => WD.out z (List.mem_of_mem_drop (List.mem_of_mem_take (har ▸ hz))))
                  have SRC : Hid (Gets (w6.alloc (.cells #[] 3)) (some ⟨g, o4, none⟩) q 1 (nums ar)) := Lib.hid (by
                    refine ⟨by simp [nums, AL.out], fun hq => ⟨_, rfl, fun j u hu => ?_⟩⟩
                    obtain ⟨hj, e⟩ := List.getElem?_eq_some_iff.1 hu
                    have hj2 : j < q := by have h := hj; simp only [nums, List.length_map] at h; rw [AL.out] at h; exact h
                    have hjl : k + 1 + j < l.length := by rw [hL.out]; have := HLQ.out; omega
                    obtain ⟨g2, o9, e2, h2⟩ := SL6.out.one (k + 1 + j) hjl
                    cases e2
                    rw [Addr.add_lit, ho4.out, if_neg (by have := HLQ.out; have := XC.out; omega), show o2 + (k + 1) + j = o2 + (k + 1 + j) by omega, cell_gr ((Gr.refl w6).alloc _) h2.1, ← e]
                    simp only [nums, List.getElem_map, ← har, List.getElem_take, List.getElem_drop])
                  rw [har] at OF3
                  clear har hxc
                  go_wp2_with (first | (at_builtin; refine wpList_append_gets _ rfl _ _ 38 rfl w6.heap.size 3 i0 (.int .i64 0) 1 8 Tryz.underlying38 hi0 hz0 hz1 hz2 rfl (by decide) (.slice (some ⟨w6.heap.size, 0, none⟩) 0 0) 0 [] rfl (World.ownsRow_made w6 #[] 0 (Nat.le_refl _) (by simp) rfl) (some ⟨g, o4, none⟩) (k + 1 + q - (k + 1)) (xc - (k + 1)) (nums ar) rfl (by rw [show k + 1 + q - (k + 1) = q by omega]; exact SRC.out) (nums_one _) (by unfold maxLen; omega) (by omega) (by simp) ?_; intro v7 w7 hown hgrow hloc; obtain ⟨x7, z7, rfl⟩ := owns_slice hown; rw [show 0 + (k + 1 + q - (k + 1)) = q by omega] at hown; rw [show 0 + (k + 1 + q - (k + 1)) = q by omega]; rw [List.nil_append] at hown; have O7 := Lib.hid hown; have G7 : Hid (Gr w6 w7) := Lib.hid (((Gr.refl w6).alloc _).grown hgrow (fun k e => by cases e; exact Nat.le_refl _)); clear hown hgrow hloc; have HG7 := Lib.hid (HG6.out.trans G7.out); have OW7 := Lib.hid (Gr.owns OW6.out G7.out); have LK7 : Hid (w7.ownsRow w6.heap.size 3 1 (.slice x7 ar.length z7) ar.length (nums ar)) := Lib.hid (by rw [AL.out]; exact O7.out); have LR7 := Lib.hid ((LR6.out.gr G7.out).snoc (t := ⟨⟨i, kk, pn, (lks ls).length, ar⟩, x7, z7⟩) ⟨owns_low LK7.out HG6.out.size, AW.out, by rw [AL.out]; omega⟩); have TY7 := Lib.hid (TY6.out.gr G7.out); have HRB7 := Lib.hid (HRB6.out.gr G7.out); have SL7 := Lib.hid (SL6.out.giI G7.out); have EK : Hid (encLk ⟨⟨i, kk, pn, (lks ls).length, ar⟩, x7, z7⟩ = [.int .i64 i, .int .i64 kk, .string (bs pn), .int .i64 ls.length, .slice x7 q z7]) := Lib.hid (by simp only [encLk, AL.out, lks, List.length_map]); have NR := Lib.hid (row_cells (Row.new w7 #[.int .i64 i, .int .i64 kk, .string (bs pn), .int .i64 ls.length, .slice x7 q z7] 40))) | (at_builtin; refine wpList_append_own _ rfl _ _ 35 rfl w.heap.size 40 j0 (.agg #[.int .i64 0, .int .i64 0, .string (bs []), .int .i64 0, .slice none 0 0]) 5 64 Tryz.underlying35 hj hy0 hy1 hy2 rfl (by decide) (.slice va ls.length vc) ls.length (encLks ls) rfl (OW7.out.alloc _) ⟨w7.heap.size, 0, none⟩ 1 1 [.int .i64 i, .int .i64 kk, .string (bs pn), .int .i64 ls.length, .slice x7 q z7] rfl rfl NR.out (by rw [← EK.out]; exact encLk_one _) (by unfold maxLen; omega) (by omega) (by have := HG7.out.size; simp; omega) ?_; intro v' wz hown' hgrow' hnil; have HOz := Lib.hid hown'; have HGz := Lib.hid hgrow'; clear hown' hgrow' hnil))
                  go_roundw
                  case rel =>
                    have ga : Gr w7 (w7.alloc (.cells #[.int .i64 i, .int .i64 kk, .string (bs pn), .int .i64 ls.length, .slice x7 q z7] 40)) := (Gr.refl w7).alloc _
                    have OA := Gr.owns OW7.out ga
                    have TYA := TY7.out.gr ga
                    have RA := HRB7.out.gr ga
                    have GA := HG7.out.trans ga
                    refine ⟨k + 1 + q, f, ls ++ [⟨⟨i, kk, pn, (lks ls).length, ar⟩, x7, z7⟩], HLQ.out, by go_num, ?_, by have := HFK.out; omega, by rw [List.length_append]; have := HFK.out; simp only [List.length_cons, List.length_nil]; omega, ?_, (LR7.out.gr ga).kept OA (by decide) HGz.out, slI_kept (SL7.out.giI ga) HGz.out (TYA.ne OA (by decide)) TYA.lt, TYA.kept HGz.out (TYA.ne OA (by decide)), RA.kept HGz.out (RA.ty.ne OA (by decide)), GA.grown HGz.out (fun j e => (OA.lt j e).1)⟩
                    · rw [OF3.out, List.drop_drop]
                      simp only [lks, List.map_append, List.map_cons, List.map_nil]
                    · have := HOz.out
                      rw [List.length_append]
                      unfold encLks at this ⊢
                      rw [List.flatMap_append, List.flatMap_cons, List.flatMap_nil, List.append_nil, EK.out]
                      exact this
                  case measure => simp [intOf]; have := HLT.out; omega
          · obtain rfl : L = k := by omega
            have R2 : Hid (R = .ok (lks ls)) := Lib.hid (by rw [OF.out, List.drop_eq_nil_of_le (by rw [hL.out]; exact Nat.le_refl _)]; cases f <;> rfl)
            have kL : ¬ (L : Int) < (L : Int) := by omega
            clear hlt
            go_wp2_with fail
            rw [HP0.out, R2.out]
            exact ⟨_, ls, rfl, rfl, OW.out, LR.out, HG.out⟩
      · rw [if_neg hok] at hgv OT2
        obtain ⟨rfl, hg⟩ := hgv
        have G3 := Lib.hid (G2.out.trans hg)
        clear hg hok
        go_wp2_with fail
        exact ERR.out _ OT2.out _ G3.out

structure CBox (w : World) (d : List Nat) (first at' FB QB AB DB : Nat) : Prop where
  f : w.cell? ⟨FB, 0, none⟩ = some (.int .i64 first)
  q : w.cell? ⟨QB, 0, none⟩ = some (.slice (some ⟨DB, 0, none⟩) d.length d.length)
  a : w.cell? ⟨AB, 0, none⟩ = some (.int .i64 at')
  row : Row w DB 3 (nums (ci d))
end Go.Proofs.YtdjhnfopdlgliaaGreat

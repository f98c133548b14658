/- grow.Rule (printed by wip/tools/gr.py). -/
import Derived.Test.YtadldblpkgackaaGreatDoorUfA
set_option linter.unusedVariables false
set_option linter.unusedSimpArgs false
namespace Go.Proofs.YtadldblpkgackaaGreatDoor
open Go.RowKit
open Classical

theorem good12 {nm : St} {req : Bool} {kd : Int} (h : nm ∈ propsL) (hk : kd = 1 ∨ kd = 2) : ruleP ⟨nm, req, kd, 0, 0, 0, []⟩ = true := by
  have := (prop_ok h).1
  rcases hk with rfl | rfl <;> simp [ruleP, this, cntd]
theorem good56 {nm : St} {req : Bool} {kd ct : Int} (h : nm ∈ propsL) (hk : kd = 5 ∨ kd = 6) (h0 : 0 ≤ ct) (h1 : ct ≤ 2) : ruleP ⟨nm, req, kd, 0, 0, ct, []⟩ = true := by
  have := (prop_ok h).1
  rcases hk with rfl | rfl <;> simp [ruleP, this, cntd] <;> omega
theorem good3 {nm : St} {req : Bool} {lo hi ct : Int} (h : nm ∈ propsL) (a0 : 0 ≤ lo) (a1 : lo ≤ hi) (a2 : hi ≤ 4294967295) (h0 : 0 ≤ ct) (h1 : ct ≤ 2) : ruleP ⟨nm, req, 3, lo, hi, ct, []⟩ = true := by
  have := (prop_ok h).1
  simp [ruleP, this, cntd]
  omega
theorem good4 {nm : St} {req : Bool} {n : Nat} (h : nm ∈ propsL) (h0 : 1 ≤ n) (h1 : n ≤ 4) : ruleP ⟨nm, req, 4, 0, 0, 0, wordsL.take n⟩ = true := by
  have := (prop_ok h).1
  have hl : (wordsL.take n).length = n := by rw [List.length_take]; simp [wordsL]; omega
  have hv : (wordsL.take n).all visP = true := by
    rw [List.all_eq_true]
    intro s hs
    exact List.all_eq_true.1 wordsL_ok s (List.mem_of_mem_take hs)
  simp [ruleP, this, cntd, hl, -List.length_take, -List.all_eq_true]
  rw [hv]
  simp
  omega
set_option maxRecDepth 100000 in
set_option maxHeartbeats 8000000 in
theorem growRule_any (w : World) (b len : Nat) (h : Tp w b len) :
    Calls Tryz.prog 44 #[.pointer (some ⟨b, 0, none⟩)] w (GivesRul b len w) := by
  have H := Lib.hid h
  have hb := h.has
  clear h
  go_enter Tryz.func44, Tryz.ntmps44
  refine wp_cut 3 fun T hT => ?_
  simp only [cutAt]
  go_wp2_with fail
  have RR := Lib.hid (Row.new w #[.string ⟨#[]⟩, .bool false, .int .i64 0, .int .i64 0, .int .i64 0, .int .i64 0, .slice none 0 0] 28)
  obtain ⟨W, hW⟩ : ∃ W : World, Hid (W = w.alloc (.cells #[.string ⟨#[]⟩, .bool false, .int .i64 0, .int .i64 0, .int .i64 0, .int .i64 0, .slice none 0 0] 28)) := ⟨_, Lib.hid rfl⟩
  have GW : Hid (Gr w W) := Lib.hid (by rw [hW.out]; exact (Gr.refl _).alloc _)
  rw [← hW.out] at RR ⊢
  obtain ⟨RB, hRB⟩ : ∃ N : Nat, Hid (w.heap.size = N) := ⟨_, Lib.hid rfl⟩
  have RBL : Hid (w.heap.size ≤ RB) := Lib.hid (Nat.le_of_eq hRB.out)
  have RBN : Hid (RB ≠ b) := Lib.hid (by have := hRB.out; omega)
  rw [hRB.out] at RR ⊢
  clear hW hRB
  refine (property_any W b len (H.out.gr GW.out)).mono ?_
  rintro e w1 ⟨nm, hnm, rfl, hm⟩
  have M1 := Lib.hid ((Mv.of_gr H.out GW.out).trans H.out.has hm)
  have R1 := Lib.hid (hm.row RR.out RBN.out)
  have NM := Lib.hid hnm
  clear hm RR GW hnm
  go_wp2_with fail
  refine (nM_any w1 b len 3 (M1.out.tp H.out) (by omega) (by omega)).mono ?_
  rintro e w2 ⟨rq, rfl, ⟨_, _⟩, hm⟩
  have M2 := Lib.hid (M1.out.trans H.out.has hm)
  have R2 := Lib.hid (hm.row R1.out RBN.out)
  clear hm M1 R1
  go_wp2_with fail
  refine (rangeM_any w2 b len 1 6 (M2.out.tp H.out) (by omega) (by omega) (by omega)).mono ?_
  rintro e w3 ⟨kd, rfl, ⟨k0, k1⟩, hm⟩
  have M3 := Lib.hid (M2.out.trans H.out.has hm)
  have R3 := Lib.hid (hm.row R2.out RBN.out)
  clear hm M2 R2
  obtain ⟨req, hreq⟩ : ∃ q : Bool, (rq == 0) = q := ⟨_, rfl⟩
  rw [hreq]
  clear hreq
  have b3 : b < w3.heap.size := (M3.out.tp H.out).has
  by_cases h12 : kd = 1 ∨ kd = 2
  · have e3 : (kd == 3) = false := by rw [beq_eq_false_iff_ne]; omega
    have e4 : (kd == 4) = false := by rw [beq_eq_false_iff_ne]; omega
    have e5 : (kd == 5) = false := by rw [beq_eq_false_iff_ne]; omega
    have e6 : (kd == 6) = false := by rw [beq_eq_false_iff_ne]; omega
    have K12 := Lib.hid h12
    clear h12
    go_wp2_with fail
    refine wp_at hT (by kernel_rfl) (rulEnd (x := ⟨⟨nm, req, kd, 0, 0, 0, []⟩, none, 0⟩) (R3.out.alloc _) (Row.new w3 _ _) RBL.out (M3.out.alloc _) ⟨good12 NM.out K12.out, NM.out, Nat.le_refl _⟩ (fun A q => by cases q) (.inl rfl))
  · have BX := Lib.hid (Row.new w3 #[.string (bs nm), .bool req, .int .i64 kd, .int .i64 0, .int .i64 0, .int .i64 0, .slice none 0 0] 28)
    have NBN : Hid (w3.heap.size ≠ b) := Lib.hid (by omega)
    have NBL : Hid (w.heap.size ≤ w3.heap.size) := Lib.hid M3.out.size
    have RNE : Hid (RB ≠ w3.heap.size) := Lib.hid (by have := R3.out.has; unfold Has at this; omega)
    have n3 := BX.out.cell 3 (by simp)
    have n5 := BX.out.cell 5 (by simp)
    have n6 := BX.out.cell 6 (by simp)
    have f3 := BX.out.free 3
    have f5 := BX.out.free 5
    have f6 := BX.out.free 6
    have RA := Lib.hid (R3.out.alloc (.cells #[.string (bs nm), .bool req, .int .i64 kd, .int .i64 0, .int .i64 0, .int .i64 0, .slice none 0 0] 28))
    have MA := Lib.hid (M3.out.alloc (.cells #[.string (bs nm), .bool req, .int .i64 kd, .int .i64 0, .int .i64 0, .int .i64 0, .slice none 0 0] 28))
    by_cases h56 : kd = 5 ∨ kd = 6
    · have e3 : (kd == 3) = false := by rw [beq_eq_false_iff_ne]; omega
      have e4 : (kd == 4) = false := by rw [beq_eq_false_iff_ne]; omega
      have K56 := Lib.hid h56
      by_cases h5 : kd = 5
      · have e5 : (kd == 5) = true := by rw [beq_iff_eq]; exact h5
        clear h12 h56 h5
        go_wp2_with fail
        obtain ⟨W4, hW4⟩ : ∃ W : World, Hid (W = w3.alloc (.cells #[.string (bs nm), .bool req, .int .i64 kd, .int .i64 0, .int .i64 0, .int .i64 0, .slice none 0 0] 28)) := ⟨_, Lib.hid rfl⟩
        rw [← hW4.out] at BX RA MA n3 n5 n6 f3 f5 f6 ⊢
        obtain ⟨NB, hNB⟩ : ∃ N : Nat, Hid (w3.heap.size = N) := ⟨_, Lib.hid rfl⟩
        rw [hNB.out] at BX NBN NBL RNE n3 n5 n6 f3 f5 f6 ⊢
        clear hW4 hNB
        refine (nM_any W4 b len 3 (MA.out.tp H.out) (by omega) (by omega)).mono ?_
        rintro e w5 ⟨ct, rfl, ⟨c0, c1⟩, hm⟩
        have M5 := Lib.hid (MA.out.trans H.out.has hm)
        have R5 := Lib.hid (hm.row RA.out RBN.out)
        have B5 := Lib.hid (hm.row BX.out NBN.out)
        have m5 : w5.cell? ⟨NB, 5, none⟩ = some (.int .i64 0) := B5.out.cell 5 (by simp)
        have g5 := B5.out.free 5
        have hh := has_of_cell m5
        clear hm BX RA MA n3 n5 n6 f3 f5 f6
        go_wp2_with fail
        refine wp_at hT (by kernel_rfl) (rulEnd (x := ⟨⟨nm, req, kd, 0, 0, ct, []⟩, none, 0⟩) (R5.out.oth RNE.out.symm) (B5.out.set 5 _) RBL.out (M5.out.setc NBL.out) ⟨good56 NM.out K56.out c0 (by omega), NM.out, Nat.le_refl _⟩ (fun A q => by cases q) (.inl rfl))
      · have e5 : (kd == 5) = false := by rw [beq_eq_false_iff_ne]; omega
        have e6 : (kd == 6) = true := by rw [beq_iff_eq]; omega
        clear h12 h56 h5
        go_wp2_with fail
        obtain ⟨W4, hW4⟩ : ∃ W : World, Hid (W = w3.alloc (.cells #[.string (bs nm), .bool req, .int .i64 kd, .int .i64 0, .int .i64 0, .int .i64 0, .slice none 0 0] 28)) := ⟨_, Lib.hid rfl⟩
        rw [← hW4.out] at BX RA MA n3 n5 n6 f3 f5 f6 ⊢
        obtain ⟨NB, hNB⟩ : ∃ N : Nat, Hid (w3.heap.size = N) := ⟨_, Lib.hid rfl⟩
        rw [hNB.out] at BX NBN NBL RNE n3 n5 n6 f3 f5 f6 ⊢
        clear hW4 hNB
        refine (nM_any W4 b len 3 (MA.out.tp H.out) (by omega) (by omega)).mono ?_
        rintro e w5 ⟨ct, rfl, ⟨c0, c1⟩, hm⟩
        have M5 := Lib.hid (MA.out.trans H.out.has hm)
        have R5 := Lib.hid (hm.row RA.out RBN.out)
        have B5 := Lib.hid (hm.row BX.out NBN.out)
        have m5 : w5.cell? ⟨NB, 5, none⟩ = some (.int .i64 0) := B5.out.cell 5 (by simp)
        have g5 := B5.out.free 5
        have hh := has_of_cell m5
        clear hm BX RA MA n3 n5 n6 f3 f5 f6
        go_wp2_with fail
        refine wp_at hT (by kernel_rfl) (rulEnd (x := ⟨⟨nm, req, kd, 0, 0, ct, []⟩, none, 0⟩) (R5.out.oth RNE.out.symm) (B5.out.set 5 _) RBL.out (M5.out.setc NBL.out) ⟨good56 NM.out K56.out c0 (by omega), NM.out, Nat.le_refl _⟩ (fun A q => by cases q) (.inl rfl))
    · by_cases h4 : kd = 4
      · have e3 : (kd == 3) = false := by rw [beq_eq_false_iff_ne]; omega
        have e4 : (kd == 4) = true := by rw [beq_iff_eq]; omega
        have e5 : (kd == 5) = false := by rw [beq_eq_false_iff_ne]; omega
        have e6 : (kd == 6) = false := by rw [beq_eq_false_iff_ne]; omega
        have K4 := Lib.hid h4
        clear h12 h56 h4
        obtain rfl := K4.out
        go_wp2_with fail
        obtain ⟨W4, hW4⟩ : ∃ W : World, Hid (W = w3.alloc (.cells #[.string (bs nm), .bool req, .int .i64 4, .int .i64 0, .int .i64 0, .int .i64 0, .slice none 0 0] 28)) := ⟨_, Lib.hid rfl⟩
        rw [← hW4.out] at BX RA MA n3 n5 n6 f3 f5 f6 ⊢
        obtain ⟨NB, hNB⟩ : ∃ N : Nat, Hid (w3.heap.size = N) := ⟨_, Lib.hid rfl⟩
        rw [hNB.out] at BX NBN NBL RNE n3 n5 n6 f3 f5 f6 ⊢
        have RW : Hid (Row (W4.alloc (.cells #[.string ⟨#[111, 107, 97, 121]⟩, .string ⟨#[100, 105, 115, 97, 98, 108, 101, 100]⟩, .string ⟨#[97]⟩, .string ⟨#[102, 105, 114, 115, 116]⟩] 9)) W4.heap.size 9 (strV wordsL)) := Lib.hid (Row.new W4 #[.string ⟨#[111, 107, 97, 121]⟩, .string ⟨#[100, 105, 115, 97, 98, 108, 101, 100]⟩, .string ⟨#[97]⟩, .string ⟨#[102, 105, 114, 115, 116]⟩] 9)
        have HZ : Hid (W4.heap.size = NB + 1) := Lib.hid (by rw [hW4.out, ← hNB.out]; simp)
        clear hW4 hNB
        rw [HZ.out] at RW
        obtain ⟨W5, hW5⟩ : ∃ W : World, Hid (W = W4.alloc (.cells #[.string ⟨#[111, 107, 97, 121]⟩, .string ⟨#[100, 105, 115, 97, 98, 108, 101, 100]⟩, .string ⟨#[97]⟩, .string ⟨#[102, 105, 114, 115, 116]⟩] 9)) := ⟨_, Lib.hid rfl⟩
        have G5 : Hid (Gr W4 W5) := Lib.hid (by rw [hW5.out]; exact (Gr.refl _).alloc _)
        rw [← hW5.out] at RW ⊢
        refine (rangeM_any W5 b len 1 4 ((MA.out.gr G5.out).tp H.out) (by omega) (by omega) (by omega)).mono ?_
        rintro e w5 ⟨ct, rfl, ⟨c0, c1⟩, hm⟩
        have M5 := Lib.hid ((MA.out.gr G5.out).trans H.out.has hm)
        have R5 := Lib.hid (hm.row (RA.out.gr G5.out) RBN.out)
        have B5 := Lib.hid (hm.row (BX.out.gr G5.out) NBN.out)
        have BB : Hid (NB + 1 ≠ b) := Lib.hid (by have := (MA.out.tp H.out).has; have := HZ.out; have := H.out.has; have := NBL.out; omega)
        have RW5 := Lib.hid (hm.row RW.out BB.out)
        obtain ⟨n, rfl⟩ : ∃ n : Nat, ct = n := ⟨ct.toNat, by omega⟩
        have m6 : w5.cell? ⟨NB, 6, none⟩ = some (.slice none 0 0) := B5.out.cell 6 (by simp)
        have g6 := B5.out.free 6
        have hh := has_of_cell m6
        have hn4 : (n : Int) ≤ 4 := by omega
        have hl : Hid ((wordsL.take n).length = n) := Lib.hid (by rw [List.length_take]; simp [wordsL]; omega)
        clear hm BX RA MA RW n3 n5 n6 f3 f5 f6 hW5
        go_wp2_with fail
        refine wp_at hT (by kernel_rfl) (rulEnd (x := ⟨⟨nm, req, 4, 0, 0, 0, wordsL.take n⟩, some ⟨NB + 1, 0, none⟩, 4⟩) (R5.out.oth RNE.out.symm) (by have q := B5.out.set 6 (.slice (some ⟨NB + 1, 0, none⟩) n 4); simp only [RM.enc, hl.out]; exact q) RBL.out (M5.out.setc NBL.out) ⟨good4 NM.out (by omega) (by omega), NM.out, by simp only [hl.out]; omega⟩ (fun A q => by cases q; have := NBL.out; show _ ≤ NB + 1; omega) (.inr ⟨NB + 1, 0, _, rfl, RW5.out.oth (by omega), fun j hj => ?_⟩))
        have hj4 : j < wordsL.length := by simp only [hl.out] at hj; simp [wordsL]; omega
        refine ⟨?_, ?_⟩
        · rw [Nat.zero_add, List.getElem_take]; unfold strV; rw [List.getElem?_map, List.getElem?_eq_getElem hj4]; rfl
        · rw [List.getElem_take]
          have : ∀ z ∈ wordsL, z.length ≤ 1000000 := by decide
          exact this _ (List.getElem_mem hj4)
      · have h3 : kd = 3 := by omega
        have e3 : (kd == 3) = true := by rw [beq_iff_eq]; omega
        have K3 := Lib.hid h3
        clear h12 h56 h4 h3
        obtain rfl := K3.out
        go_wp2_with fail
        have HP := Lib.hid (pickNew_any (w3.alloc (.cells #[.string (bs nm), .bool req, .int .i64 3, .int .i64 0, .int .i64 0, .int .i64 0, .slice none 0 0] 28)) b len (MA.out.tp H.out) (w3.heap.size + 1) (by simp) #[.int .i64 0, .int .i64 0, .int .i64 1, .int .i64 5, .int .i64 100] 5 [0, 0, 1, 5, 100] (fun x => 0 ≤ x ∧ x ≤ 100) rfl rfl (by omega) (by omega) (by decide))
        refine HP.out.mono ?_
        clear HP
        obtain ⟨W4, hW4⟩ : ∃ W : World, Hid (W = w3.alloc (.cells #[.string (bs nm), .bool req, .int .i64 3, .int .i64 0, .int .i64 0, .int .i64 0, .slice none 0 0] 28)) := ⟨_, Lib.hid rfl⟩
        rw [← hW4.out] at BX RA MA n3 n5 n6 f3 f5 f6 ⊢
        obtain ⟨NB, hNB⟩ : ∃ N : Nat, Hid (w3.heap.size = N) := ⟨_, Lib.hid rfl⟩
        rw [hNB.out] at BX NBN NBL RNE n3 n5 n6 f3 f5 f6 ⊢
        clear hW4 hNB
        rintro e w5 ⟨lo, rfl, ⟨l0, l1⟩, hm⟩
        have M5 := Lib.hid (MA.out.trans H.out.has hm)
        have R5 := Lib.hid (hm.row RA.out RBN.out)
        have B5 := Lib.hid (hm.row BX.out NBN.out)
        have m3 : w5.cell? ⟨NB, 3, none⟩ = some (.int .i64 0) := B5.out.cell 3 (by simp)
        have g3 := B5.out.free 3
        have hh := has_of_cell m3
        clear hm BX RA MA n3 n5 n6 f3 f5 f6
        go_wp2_with fail
        have B6 := Lib.hid (B5.out.set 3 (.int .i64 lo))
        have M6 := Lib.hid (M5.out.setc (o := 3) (v := .int .i64 lo) NBL.out)
        have R6 := Lib.hid (R5.out.oth (o := 3) (v := .int .i64 lo) RNE.out.symm)
        obtain ⟨W6, hW6⟩ : ∃ W : World, Hid (W = w5.setCell ⟨NB, 3, none⟩ (.int .i64 lo)) := ⟨_, Lib.hid rfl⟩
        rw [← hW6.out] at B6 M6 R6 ⊢
        clear hW6 m3 g3 hh B5 M5 R5
        simp only [List.set_cons_zero, List.set_cons_succ] at B6
        refine wp_code_eq (c := Code.region 5 (regIn 5 Tryz.f44) true) (by kernel_rfl) (gr5 (wr := W6) (lo := lo) (M6.out.tp H.out) B6.out rfl rfl ⟨l0, l1⟩ NBN.out ?_)
        intro t20 t21 t22 t23 t24 t25 t26 wx hfin
        have FN := Lib.hid hfin
        clear hfin
        unfold gr5A
        obtain ⟨w7, d, hwx, d0, d1, hm7, hr7⟩ := FN.out
        have M8 : Hid (Mv b len w wx) := Lib.hid (by rw [hwx]; exact (M6.out.trans H.out.has hm7).setc NBL.out)
        have B8 : Hid (Row wx NB 28 [.string (bs nm), .bool req, .int .i64 3, .int .i64 lo, .int .i64 (lo + d), .int .i64 0, .slice none 0 0]) := Lib.hid (by rw [hwx]; exact hr7.set 4 _)
        have R8 : Hid (Row wx RB 28 [.string ⟨#[]⟩, .bool false, .int .i64 0, .int .i64 0, .int .i64 0, .int .i64 0, .slice none 0 0]) := Lib.hid (by rw [hwx]; exact (hm7.row R6.out RBN.out).oth RNE.out.symm)
        clear hm7 hr7 hwx FN B6 M6 R6
        go_wp2_with fail
        refine (nM_any wx b len 3 (M8.out.tp H.out) (by omega) (by omega)).mono ?_
        rintro e w9 ⟨ct, rfl, ⟨c0, c1⟩, hm⟩
        have M9 := Lib.hid (M8.out.trans H.out.has hm)
        have R9 := Lib.hid (hm.row R8.out RBN.out)
        have B9 := Lib.hid (hm.row B8.out NBN.out)
        have m5 : w9.cell? ⟨NB, 5, none⟩ = some (.int .i64 0) := B9.out.cell 5 (by simp)
        have g5 := B9.out.free 5
        have hh := has_of_cell m5
        clear hm B8 R8 M8
        go_wp2_with fail
        refine wp_at hT (by kernel_rfl) (rulEnd (x := ⟨⟨nm, req, 3, lo, lo + d, ct, []⟩, none, 0⟩) (R9.out.oth RNE.out.symm) (B9.out.set 5 _) RBL.out (M9.out.setc NBL.out) ⟨good3 NM.out l0 (by omega) (by omega) c0 (by omega), NM.out, Nat.le_refl _⟩ (fun A q => by cases q) (.inl rfl))
end Go.Proofs.YtadldblpkgackaaGreatDoor

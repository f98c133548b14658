/- schema.words (printed by wip/tools/uaw.py). -/
import Derived.Test.YtadldblpkgackaaGreatDoorUbD
import Derived.Deep.DeepMust
set_option linter.unusedVariables false
set_option linter.unusedSimpArgs false
namespace Go.Proofs.YtadldblpkgackaaGreatDoor
open Go.RowKit
open Classical

theorem row_at {w : World} {B C T : Nat} {vs : List Value} (h : Row w B T vs) (e : B = C) : Row w C T vs := by rw [← e]; exact h
theorem gets_words {w : World} {a : Option Addr} {l : List St} (h : SlOf 1 RS w a l) : Gets w a l.length 1 (strV l) := by
  refine ⟨by simp [strV], fun hn => ?_⟩
  obtain ⟨b, o, e, _⟩ := h.one 0 (by omega)
  refine ⟨_, e, fun j u hu => ?_⟩
  obtain ⟨hj, hju⟩ := List.getElem?_eq_some_iff.1 hu
  have hj' : j < l.length := by simpa [strV] using hj
  obtain ⟨b2, o2, e2, c2, _⟩ := h.one j hj'
  rw [e] at e2
  cases e2
  rw [Addr.add_lit, c2, ← hju]
  simp [strV]
theorem kind_nat {r : Rul} (h : ruleP r = true) : ∃ k : Nat, r.kind = k ∧ 1 ≤ k ∧ k ≤ 6 := by
  unfold ruleP at h
  simp only [Bool.and_eq_true, decide_eq_true_eq] at h
  obtain ⟨⟨⟨⟨⟨⟨_, h1, h2⟩, _⟩, _⟩, _⟩, _⟩, _⟩ := h
  exact ⟨r.kind.toNat, by omega, by omega, by omega⟩
theorem count_range {r : Rul} (h : ruleP r = true) : 0 ≤ r.count ∧ r.count ≤ 64 := by
  unfold ruleP at h
  simp only [Bool.and_eq_true, decide_eq_true_eq] at h
  obtain ⟨⟨⟨⟨⟨_, _⟩, h1, h2⟩, _⟩, _⟩, _⟩ := h
  exact ⟨h1, h2⟩
theorem cells_range {r : Rul} (h : ruleP r = true) (k : r.kind = 3) : 0 ≤ r.low ∧ r.low ≤ 4294967295 ∧ 0 ≤ r.high ∧ r.high ≤ 4294967295 := by
  unfold ruleP at h
  simp only [Bool.and_eq_true, decide_eq_true_eq] at h
  obtain ⟨⟨⟨⟨⟨_, h1⟩, _⟩, _⟩, _⟩, _⟩ := h
  rw [if_pos k] at h1
  simp only [Bool.and_eq_true, decide_eq_true_eq] at h1
  omega
theorem words_len {r : Rul} (h : ruleP r = true) : r.words.length ≤ 16 := by
  unfold ruleP at h
  simp only [Bool.and_eq_true, decide_eq_true_eq] at h
  obtain ⟨⟨_, h1⟩, _⟩ := h
  split at h1
  · simp only [Bool.and_eq_true, decide_eq_true_eq] at h1; omega
  · simp only [decide_eq_true_eq] at h1; omega
set_option maxRecDepth 100000 in
set_option maxHeartbeats 16000000 in
theorem words_any (r : Rul) (a : Option Addr) (cap : Nat) (w : World) (h : SlOf 1 RS w a r.words) (hr : ruleP r = true) (hn : r.name.length ≤ 1000000) (hk : Kin w) (hp : Pow w) :
    Calls Tryz.prog 48 #[.agg #[.string (bs r.name), .bool r.req, .int .i64 r.kind, .int .i64 r.low, .int .i64 r.high, .int .i64 r.count, .slice a r.words.length cap]] w fun e w' => ∃ v, e = .returned v ∧ w'.ownsRow w.heap.size 9 1 v (wordsP r).length (strV (wordsP r)) ∧ Gr w w' := by
  obtain ⟨kn, hkn, hk1, hk6⟩ := kind_nat hr
  have hcr := count_range hr
  have hcl := fun q => cells_range hr q
  have hwl := words_len hr
  obtain ⟨name, req, kind, low, high, count, words⟩ := r
  dsimp only at h hn hkn hcr hcl hwl ⊢
  subst hkn
  have H := Lib.hid h
  have KN := Lib.hid hk
  have PW := Lib.hid hp
  have HCL := Lib.hid hcl
  have k7 : kn < 7 := by omega
  have k7' : (kn : Int) < 7 := by omega
  obtain ⟨K, hK⟩ : ∃ K, kindsS[kn]'k7 = K := ⟨_, rfl⟩
  have HK := Lib.hid hK
  have KW : Hid (∀ W, Gr w W → W.cell? ⟨0, kn, none⟩ = some (.string (bs K))) := Lib.hid (fun W hg => by rw [← hK]; exact (hk.gr hg) kn k7)
  have KD : Hid (kindsS.getD (kn : Int).toNat [] = K) := Lib.hid (by rw [Int.toNat_natCast, List.getD_eq_getElem?_getD, List.getElem?_eq_getElem k7, ← hK]; rfl)
  obtain ⟨j0, hj, hy0, hy1, hy2⟩ := info_parts infoStr
  have RB0 := Lib.hid (Row.new w #[.string (bs name), .bool req, .int .i64 kn, .int .i64 low, .int .i64 high, .int .i64 count, .slice a words.length cap] 28)
  have OW0 : Hid (((w.alloc (.cells #[.string (bs name), .bool req, .int .i64 kn, .int .i64 low, .int .i64 high, .int .i64 count, .slice a words.length cap] 28)).alloc (.cells #[.string (bs name)] 9)).ownsRow w.heap.size 9 1 (.slice (some ⟨w.heap.size + 1, 0, none⟩) 1 1) 1 (strV [name])) := Lib.hid (by
    have := row_owns (base := w.heap.size) (size := 1) (n := 1) (Row.new (w.alloc (.cells #[.string (bs name), .bool req, .int .i64 kn, .int .i64 low, .int .i64 high, .int .i64 count, .slice a words.length cap] 28)) #[.string (bs name)] 9) (by simp) rfl (by unfold maxLen; omega)
    rw [World.size_alloc] at this
    exact this)
  obtain ⟨w0, hw0⟩ : ∃ W : World, Hid ((w.alloc (.cells #[.string (bs name), .bool req, .int .i64 kn, .int .i64 low, .int .i64 high, .int .i64 count, .slice a words.length cap] 28)).alloc (.cells #[.string (bs name)] 9) = W) := ⟨_, Lib.hid rfl⟩
  have GW0 : Hid (Gr w w0) := Lib.hid (by rw [← hw0.out]; exact ((Gr.refl _).alloc _).alloc _)
  have RW0 : Hid (Row w0 w.heap.size 28 [.string (bs name), .bool req, .int .i64 kn, .int .i64 low, .int .i64 high, .int .i64 count, .slice a words.length cap]) := Lib.hid (by rw [← hw0.out]; exact RB0.out.alloc _)
  rw [hw0.out] at OW0
  have Z0 : Hid (w0.heap.size = w.heap.size + 1 + 1) := Lib.hid (by rw [← hw0.out]; simp)
  have ssb : w.heap.size ≤ w0.heap.size := GW0.out.size
  clear h hk hp hK hcl RB0
  have ck0 := KW.out w (Gr.refl _)
  have hk0 := has_of_cell ck0
  cases req with
  | true =>
    by_cases k3 : kn = 3
    · have e3 : ((kn : Int) == 3) = true := by rw [beq_iff_eq]; omega
      have K3 := Lib.hid (show (kn : Int) = 3 by omega)
      clear k3
      by_cases hc0 : count = 0
      · subst hc0
        have hc0 : True := trivial
        go_enter Tryz.func48, Tryz.ntmps48
        go_wp2_with (first | (at_builtin; rw [hw0.out]; refine wpList_append_own _ rfl _ _ 26 rfl w.heap.size 9 j0 (.string ⟨#[]⟩) 1 16 Tryz.underlying26 hj hy0 hy1 hy2 rfl (by decide) (.slice (some ⟨w.heap.size + 1, 0, none⟩) 1 1) 1 (strV [name]) rfl (OW0.out.alloc _) ⟨w.heap.size + 1 + 1, 0, none⟩ 1 1 (strV [reqS]) rfl rfl (row_cells (row_at (Row.new w0 #[.string (bs (reqS))] 9) Z0.out)) (strV_one _) (by unfold maxLen; omega) (by omega) (by have := GW0.out.size; simp; omega) ?_; intro v' w1 hown' hgrow hnil; obtain ⟨va1, vc1, rfl⟩ := owns_slice hown'; have OW1 : Hid (w1.ownsRow w.heap.size 9 1 (.slice va1 2 vc1) 2 (strV [name, reqS])) := Lib.hid (by simpa [strV] using hown'); have RW1 := Lib.hid ((RW0.out.alloc (.cells #[.string (bs (reqS))] 9)).kept hgrow ((RW0.out.alloc _).ty.ne (OW0.out.alloc (.cells #[.string (bs (reqS))] 9)) (by decide))); have GW1 := Lib.hid ((GW0.out.alloc (.cells #[.string (bs (reqS))] 9)).grown hgrow (fun k e => ((OW0.out.alloc (.cells #[.string (bs (reqS))] 9)).lt k e).1)); have cq1 := RW1.out.cell 1 (by simp); have ck1 := RW1.out.cell 2 (by simp); have cl1 := RW1.out.cell 3 (by simp); have ch1 := RW1.out.cell 4 (by simp); have cc1 := RW1.out.cell 5 (by simp); have cw1 := RW1.out.cell 6 (by simp); simp only [List.getElem_cons_succ, List.getElem_cons_zero] at cq1 ck1 cl1 ch1 cc1 cw1; have hx1 := has_of_cell cq1; have ck1x := KW.out _ GW1.out; have hk1x := has_of_cell ck1x; clear hown' hgrow hnil) | (at_builtin; refine wpList_append_own _ rfl _ _ 26 rfl w.heap.size 9 j0 (.string ⟨#[]⟩) 1 16 Tryz.underlying26 hj hy0 hy1 hy2 rfl (by decide) (.slice va1 2 vc1) 2 (strV [name, reqS]) rfl (OW1.out.alloc _) ⟨w1.heap.size, 0, none⟩ 1 1 (strV [K]) rfl rfl (row_cells (Row.new w1 #[.string (bs (K))] 9)) (strV_one _) (by unfold maxLen; omega) (by omega) (by have := GW1.out.size; simp; omega) ?_; intro v' w2 hown' hgrow hnil; obtain ⟨va2, vc2, rfl⟩ := owns_slice hown'; have OW2 : Hid (w2.ownsRow w.heap.size 9 1 (.slice va2 3 vc2) 3 (strV [name, reqS, K])) := Lib.hid (by simpa [strV] using hown'); have RW2 := Lib.hid ((RW1.out.alloc (.cells #[.string (bs (K))] 9)).kept hgrow ((RW1.out.alloc _).ty.ne (OW1.out.alloc (.cells #[.string (bs (K))] 9)) (by decide))); have GW2 := Lib.hid ((GW1.out.alloc (.cells #[.string (bs (K))] 9)).grown hgrow (fun k e => ((OW1.out.alloc (.cells #[.string (bs (K))] 9)).lt k e).1)); have cq2 := RW2.out.cell 1 (by simp); have ck2 := RW2.out.cell 2 (by simp); have cl2 := RW2.out.cell 3 (by simp); have ch2 := RW2.out.cell 4 (by simp); have cc2 := RW2.out.cell 5 (by simp); have cw2 := RW2.out.cell 6 (by simp); simp only [List.getElem_cons_succ, List.getElem_cons_zero] at cq2 ck2 cl2 ch2 cc2 cw2; have hx2 := has_of_cell cq2; have ck2x := KW.out _ GW2.out; have hk2x := has_of_cell ck2x; clear hown' hgrow hnil) | fail)
        refine wp_code_eq (c := Code.region 6 (regIn 6 Tryz.f48) true) (by kernel_rfl) (wd6 (wb := w) (x := (.slice va2 3 vc2)) (zs := [name, reqS, K]) (lo := low) (hi := high) OW2.out GW2.out (by simp) RW2.out (by have := HCL.out K3.out; omega) PW.out ?_)
        intro t3 t22 t23 t24 t25 t26 t27 t28 t29 t30 t31 t32 w3 hown hrow hgr
        obtain ⟨va3, vc3, rfl⟩ := owns_slice hown
        have OW3 : Hid (w3.ownsRow w.heap.size 9 1 (.slice va3 4 vc3) 4 (strV [name, reqS, K, (Lib.itoa low ++ 46 :: 46 :: Lib.itoa high)])) := Lib.hid hown
        have RW3 := Lib.hid hrow
        have GW3 := Lib.hid hgr
        have cq3 := RW3.out.cell 1 (by simp)
        have ck3 := RW3.out.cell 2 (by simp)
        have cl3 := RW3.out.cell 3 (by simp)
        have ch3 := RW3.out.cell 4 (by simp)
        have cc3 := RW3.out.cell 5 (by simp)
        have cw3 := RW3.out.cell 6 (by simp)
        simp only [List.getElem_cons_succ, List.getElem_cons_zero] at cq3 ck3 cl3 ch3 cc3 cw3
        have hx3 := has_of_cell cq3
        have ck3x := KW.out _ GW3.out
        have hk3x := has_of_cell ck3x
        unfold wd6A
        clear hown hrow hgr
        go_wp2_with (first | (at_builtin; refine wpList_append_gets _ rfl _ _ 26 rfl w.heap.size 9 j0 (.string ⟨#[]⟩) 1 16 Tryz.underlying26 hj hy0 hy1 hy2 rfl (by decide) (.slice va3 4 vc3) 4 (strV [name, reqS, K, (Lib.itoa low ++ 46 :: 46 :: Lib.itoa high)]) rfl OW3.out a words.length cap (strV words) rfl (gets_words (H.out.giS GW3.out)) (strV_one _) (by unfold maxLen; omega) (by omega) GW3.out.size ?_; intro v' w4 hown' hgrow hnil; have OW4 : Hid (w4.ownsRow w.heap.size 9 1 v' (4 + words.length) (strV ([name, reqS, K, (Lib.itoa low ++ 46 :: 46 :: Lib.itoa high)] ++ words))) := Lib.hid (by simpa [strV] using hown'); have GW4 := Lib.hid (GW3.out.grown hgrow (fun k e => (OW3.out.lt k e).1)); clear hown' hgrow hnil) | fail)
        go_ret
        have e : wordsP ⟨name, true, (kn : Int), low, high, 0, words⟩ = [name, reqS, K, (Lib.itoa low ++ 46 :: 46 :: Lib.itoa high)] ++ words := by
          unfold wordsP
          simp only [KD.out]
          simp [K3.out, hc0]
        have el : (wordsP ⟨name, true, (kn : Int), low, high, 0, words⟩).length = 4 + words.length := by rw [e]; simp; omega
        exact ⟨v', rfl, by rw [el, e]; exact OW4.out, GW4.out⟩
      · have ec : (count != 0) = true := by rw [bne_iff_ne]; exact hc0
        go_enter Tryz.func48, Tryz.ntmps48
        go_wp2_with (first | (at_builtin; rw [hw0.out]; refine wpList_append_own _ rfl _ _ 26 rfl w.heap.size 9 j0 (.string ⟨#[]⟩) 1 16 Tryz.underlying26 hj hy0 hy1 hy2 rfl (by decide) (.slice (some ⟨w.heap.size + 1, 0, none⟩) 1 1) 1 (strV [name]) rfl (OW0.out.alloc _) ⟨w.heap.size + 1 + 1, 0, none⟩ 1 1 (strV [reqS]) rfl rfl (row_cells (row_at (Row.new w0 #[.string (bs (reqS))] 9) Z0.out)) (strV_one _) (by unfold maxLen; omega) (by omega) (by have := GW0.out.size; simp; omega) ?_; intro v' w1 hown' hgrow hnil; obtain ⟨va1, vc1, rfl⟩ := owns_slice hown'; have OW1 : Hid (w1.ownsRow w.heap.size 9 1 (.slice va1 2 vc1) 2 (strV [name, reqS])) := Lib.hid (by simpa [strV] using hown'); have RW1 := Lib.hid ((RW0.out.alloc (.cells #[.string (bs (reqS))] 9)).kept hgrow ((RW0.out.alloc _).ty.ne (OW0.out.alloc (.cells #[.string (bs (reqS))] 9)) (by decide))); have GW1 := Lib.hid ((GW0.out.alloc (.cells #[.string (bs (reqS))] 9)).grown hgrow (fun k e => ((OW0.out.alloc (.cells #[.string (bs (reqS))] 9)).lt k e).1)); have cq1 := RW1.out.cell 1 (by simp); have ck1 := RW1.out.cell 2 (by simp); have cl1 := RW1.out.cell 3 (by simp); have ch1 := RW1.out.cell 4 (by simp); have cc1 := RW1.out.cell 5 (by simp); have cw1 := RW1.out.cell 6 (by simp); simp only [List.getElem_cons_succ, List.getElem_cons_zero] at cq1 ck1 cl1 ch1 cc1 cw1; have hx1 := has_of_cell cq1; have ck1x := KW.out _ GW1.out; have hk1x := has_of_cell ck1x; clear hown' hgrow hnil) | (at_builtin; refine wpList_append_own _ rfl _ _ 26 rfl w.heap.size 9 j0 (.string ⟨#[]⟩) 1 16 Tryz.underlying26 hj hy0 hy1 hy2 rfl (by decide) (.slice va1 2 vc1) 2 (strV [name, reqS]) rfl (OW1.out.alloc _) ⟨w1.heap.size, 0, none⟩ 1 1 (strV [K]) rfl rfl (row_cells (Row.new w1 #[.string (bs (K))] 9)) (strV_one _) (by unfold maxLen; omega) (by omega) (by have := GW1.out.size; simp; omega) ?_; intro v' w2 hown' hgrow hnil; obtain ⟨va2, vc2, rfl⟩ := owns_slice hown'; have OW2 : Hid (w2.ownsRow w.heap.size 9 1 (.slice va2 3 vc2) 3 (strV [name, reqS, K])) := Lib.hid (by simpa [strV] using hown'); have RW2 := Lib.hid ((RW1.out.alloc (.cells #[.string (bs (K))] 9)).kept hgrow ((RW1.out.alloc _).ty.ne (OW1.out.alloc (.cells #[.string (bs (K))] 9)) (by decide))); have GW2 := Lib.hid ((GW1.out.alloc (.cells #[.string (bs (K))] 9)).grown hgrow (fun k e => ((OW1.out.alloc (.cells #[.string (bs (K))] 9)).lt k e).1)); have cq2 := RW2.out.cell 1 (by simp); have ck2 := RW2.out.cell 2 (by simp); have cl2 := RW2.out.cell 3 (by simp); have ch2 := RW2.out.cell 4 (by simp); have cc2 := RW2.out.cell 5 (by simp); have cw2 := RW2.out.cell 6 (by simp); simp only [List.getElem_cons_succ, List.getElem_cons_zero] at cq2 ck2 cl2 ch2 cc2 cw2; have hx2 := has_of_cell cq2; have ck2x := KW.out _ GW2.out; have hk2x := has_of_cell ck2x; clear hown' hgrow hnil) | fail)
        refine wp_code_eq (c := Code.region 6 (regIn 6 Tryz.f48) true) (by kernel_rfl) (wd6 (wb := w) (x := (.slice va2 3 vc2)) (zs := [name, reqS, K]) (lo := low) (hi := high) OW2.out GW2.out (by simp) RW2.out (by have := HCL.out K3.out; omega) PW.out ?_)
        intro t3 t22 t23 t24 t25 t26 t27 t28 t29 t30 t31 t32 w3 hown hrow hgr
        obtain ⟨va3, vc3, rfl⟩ := owns_slice hown
        have OW3 : Hid (w3.ownsRow w.heap.size 9 1 (.slice va3 4 vc3) 4 (strV [name, reqS, K, (Lib.itoa low ++ 46 :: 46 :: Lib.itoa high)])) := Lib.hid hown
        have RW3 := Lib.hid hrow
        have GW3 := Lib.hid hgr
        have cq3 := RW3.out.cell 1 (by simp)
        have ck3 := RW3.out.cell 2 (by simp)
        have cl3 := RW3.out.cell 3 (by simp)
        have ch3 := RW3.out.cell 4 (by simp)
        have cc3 := RW3.out.cell 5 (by simp)
        have cw3 := RW3.out.cell 6 (by simp)
        simp only [List.getElem_cons_succ, List.getElem_cons_zero] at cq3 ck3 cl3 ch3 cc3 cw3
        have hx3 := has_of_cell cq3
        have ck3x := KW.out _ GW3.out
        have hk3x := has_of_cell ck3x
        unfold wd6A
        clear hown hrow hgr
        have hcat : ¬ (9223372036854775807 < 1 + (Lib.itoa count).length) := by have := itoa_len (n := count) (by omega) (by omega); omega
        go_wp2_with (first | (go_at_call 87; refine (itoa_any count _ (by omega) (by omega) (PW.out.gr GW3.out)).mono ?_; rintro e w4 ⟨rfl, hg⟩; have OW4 := Lib.hid (Gr.owns OW3.out hg); have RW4 := Lib.hid (RW3.out.gr hg); have GW4 := Lib.hid (GW3.out.trans hg); have cq4 := RW4.out.cell 1 (by simp); have ck4 := RW4.out.cell 2 (by simp); have cl4 := RW4.out.cell 3 (by simp); have ch4 := RW4.out.cell 4 (by simp); have cc4 := RW4.out.cell 5 (by simp); have cw4 := RW4.out.cell 6 (by simp); simp only [List.getElem_cons_succ, List.getElem_cons_zero] at cq4 ck4 cl4 ch4 cc4 cw4; have hx4 := has_of_cell cq4; have ck4x := KW.out _ GW4.out; have hk4x := has_of_cell ck4x; clear hg) | (at_builtin; refine wpList_append_own _ rfl _ _ 26 rfl w.heap.size 9 j0 (.string ⟨#[]⟩) 1 16 Tryz.underlying26 hj hy0 hy1 hy2 rfl (by decide) (.slice va3 4 vc3) 4 (strV [name, reqS, K, (Lib.itoa low ++ 46 :: 46 :: Lib.itoa high)]) rfl (OW4.out.alloc _) ⟨w4.heap.size, 0, none⟩ 1 1 (strV [(120 :: Lib.itoa count)]) rfl rfl (row_cells (Row.new w4 #[.string (bs ((120 :: Lib.itoa count)))] 9)) (strV_one _) (by unfold maxLen; omega) (by omega) (by have := GW4.out.size; simp; omega) ?_; intro v' w5 hown' hgrow hnil; obtain ⟨va5, vc5, rfl⟩ := owns_slice hown'; have OW5 : Hid (w5.ownsRow w.heap.size 9 1 (.slice va5 5 vc5) 5 (strV [name, reqS, K, (Lib.itoa low ++ 46 :: 46 :: Lib.itoa high), (120 :: Lib.itoa count)])) := Lib.hid (by simpa [strV] using hown'); have RW5 := Lib.hid ((RW4.out.alloc (.cells #[.string (bs ((120 :: Lib.itoa count)))] 9)).kept hgrow ((RW4.out.alloc _).ty.ne (OW4.out.alloc (.cells #[.string (bs ((120 :: Lib.itoa count)))] 9)) (by decide))); have GW5 := Lib.hid ((GW4.out.alloc (.cells #[.string (bs ((120 :: Lib.itoa count)))] 9)).grown hgrow (fun k e => ((OW4.out.alloc (.cells #[.string (bs ((120 :: Lib.itoa count)))] 9)).lt k e).1)); have cq5 := RW5.out.cell 1 (by simp); have ck5 := RW5.out.cell 2 (by simp); have cl5 := RW5.out.cell 3 (by simp); have ch5 := RW5.out.cell 4 (by simp); have cc5 := RW5.out.cell 5 (by simp); have cw5 := RW5.out.cell 6 (by simp); simp only [List.getElem_cons_succ, List.getElem_cons_zero] at cq5 ck5 cl5 ch5 cc5 cw5; have hx5 := has_of_cell cq5; have ck5x := KW.out _ GW5.out; have hk5x := has_of_cell ck5x; clear hown' hgrow hnil) | (at_builtin; refine wpList_append_gets _ rfl _ _ 26 rfl w.heap.size 9 j0 (.string ⟨#[]⟩) 1 16 Tryz.underlying26 hj hy0 hy1 hy2 rfl (by decide) (.slice va5 5 vc5) 5 (strV [name, reqS, K, (Lib.itoa low ++ 46 :: 46 :: Lib.itoa high), (120 :: Lib.itoa count)]) rfl OW5.out a words.length cap (strV words) rfl (gets_words (H.out.giS GW5.out)) (strV_one _) (by unfold maxLen; omega) (by omega) GW5.out.size ?_; intro v' w6 hown' hgrow hnil; have OW6 : Hid (w6.ownsRow w.heap.size 9 1 v' (5 + words.length) (strV ([name, reqS, K, (Lib.itoa low ++ 46 :: 46 :: Lib.itoa high), (120 :: Lib.itoa count)] ++ words))) := Lib.hid (by simpa [strV] using hown'); have GW6 := Lib.hid (GW5.out.grown hgrow (fun k e => (OW5.out.lt k e).1)); clear hown' hgrow hnil) | fail)
        go_ret
        have e : wordsP ⟨name, true, (kn : Int), low, high, count, words⟩ = [name, reqS, K, (Lib.itoa low ++ 46 :: 46 :: Lib.itoa high), (120 :: Lib.itoa count)] ++ words := by
          unfold wordsP
          simp only [KD.out]
          simp [K3.out, hc0]
        have el : (wordsP ⟨name, true, (kn : Int), low, high, count, words⟩).length = 5 + words.length := by rw [e]; simp; omega
        exact ⟨v', rfl, by rw [el, e]; exact OW6.out, GW6.out⟩
    · have k3z : ¬ (kn : Int) = 3 := by omega
      have e3 : ((kn : Int) == 3) = false := by rw [beq_eq_false_iff_ne]; omega
      by_cases hc0 : count = 0
      · subst hc0
        have hc0 : True := trivial
        go_enter Tryz.func48, Tryz.ntmps48
        go_wp2_with (first | (at_builtin; rw [hw0.out]; refine wpList_append_own _ rfl _ _ 26 rfl w.heap.size 9 j0 (.string ⟨#[]⟩) 1 16 Tryz.underlying26 hj hy0 hy1 hy2 rfl (by decide) (.slice (some ⟨w.heap.size + 1, 0, none⟩) 1 1) 1 (strV [name]) rfl (OW0.out.alloc _) ⟨w.heap.size + 1 + 1, 0, none⟩ 1 1 (strV [reqS]) rfl rfl (row_cells (row_at (Row.new w0 #[.string (bs (reqS))] 9) Z0.out)) (strV_one _) (by unfold maxLen; omega) (by omega) (by have := GW0.out.size; simp; omega) ?_; intro v' w1 hown' hgrow hnil; obtain ⟨va1, vc1, rfl⟩ := owns_slice hown'; have OW1 : Hid (w1.ownsRow w.heap.size 9 1 (.slice va1 2 vc1) 2 (strV [name, reqS])) := Lib.hid (by simpa [strV] using hown'); have RW1 := Lib.hid ((RW0.out.alloc (.cells #[.string (bs (reqS))] 9)).kept hgrow ((RW0.out.alloc _).ty.ne (OW0.out.alloc (.cells #[.string (bs (reqS))] 9)) (by decide))); have GW1 := Lib.hid ((GW0.out.alloc (.cells #[.string (bs (reqS))] 9)).grown hgrow (fun k e => ((OW0.out.alloc (.cells #[.string (bs (reqS))] 9)).lt k e).1)); have cq1 := RW1.out.cell 1 (by simp); have ck1 := RW1.out.cell 2 (by simp); have cl1 := RW1.out.cell 3 (by simp); have ch1 := RW1.out.cell 4 (by simp); have cc1 := RW1.out.cell 5 (by simp); have cw1 := RW1.out.cell 6 (by simp); simp only [List.getElem_cons_succ, List.getElem_cons_zero] at cq1 ck1 cl1 ch1 cc1 cw1; have hx1 := has_of_cell cq1; have ck1x := KW.out _ GW1.out; have hk1x := has_of_cell ck1x; clear hown' hgrow hnil) | (at_builtin; refine wpList_append_own _ rfl _ _ 26 rfl w.heap.size 9 j0 (.string ⟨#[]⟩) 1 16 Tryz.underlying26 hj hy0 hy1 hy2 rfl (by decide) (.slice va1 2 vc1) 2 (strV [name, reqS]) rfl (OW1.out.alloc _) ⟨w1.heap.size, 0, none⟩ 1 1 (strV [K]) rfl rfl (row_cells (Row.new w1 #[.string (bs (K))] 9)) (strV_one _) (by unfold maxLen; omega) (by omega) (by have := GW1.out.size; simp; omega) ?_; intro v' w2 hown' hgrow hnil; obtain ⟨va2, vc2, rfl⟩ := owns_slice hown'; have OW2 : Hid (w2.ownsRow w.heap.size 9 1 (.slice va2 3 vc2) 3 (strV [name, reqS, K])) := Lib.hid (by simpa [strV] using hown'); have RW2 := Lib.hid ((RW1.out.alloc (.cells #[.string (bs (K))] 9)).kept hgrow ((RW1.out.alloc _).ty.ne (OW1.out.alloc (.cells #[.string (bs (K))] 9)) (by decide))); have GW2 := Lib.hid ((GW1.out.alloc (.cells #[.string (bs (K))] 9)).grown hgrow (fun k e => ((OW1.out.alloc (.cells #[.string (bs (K))] 9)).lt k e).1)); have cq2 := RW2.out.cell 1 (by simp); have ck2 := RW2.out.cell 2 (by simp); have cl2 := RW2.out.cell 3 (by simp); have ch2 := RW2.out.cell 4 (by simp); have cc2 := RW2.out.cell 5 (by simp); have cw2 := RW2.out.cell 6 (by simp); simp only [List.getElem_cons_succ, List.getElem_cons_zero] at cq2 ck2 cl2 ch2 cc2 cw2; have hx2 := has_of_cell cq2; have ck2x := KW.out _ GW2.out; have hk2x := has_of_cell ck2x; clear hown' hgrow hnil) | (at_builtin; refine wpList_append_gets _ rfl _ _ 26 rfl w.heap.size 9 j0 (.string ⟨#[]⟩) 1 16 Tryz.underlying26 hj hy0 hy1 hy2 rfl (by decide) (.slice va2 3 vc2) 3 (strV [name, reqS, K]) rfl OW2.out a words.length cap (strV words) rfl (gets_words (H.out.giS GW2.out)) (strV_one _) (by unfold maxLen; omega) (by omega) GW2.out.size ?_; intro v' w3 hown' hgrow hnil; have OW3 : Hid (w3.ownsRow w.heap.size 9 1 v' (3 + words.length) (strV ([name, reqS, K] ++ words))) := Lib.hid (by simpa [strV] using hown'); have GW3 := Lib.hid (GW2.out.grown hgrow (fun k e => (OW2.out.lt k e).1)); clear hown' hgrow hnil) | fail)
        go_ret
        have e : wordsP ⟨name, true, (kn : Int), low, high, 0, words⟩ = [name, reqS, K] ++ words := by
          unfold wordsP
          simp only [KD.out]
          simp [k3z, hc0]
        have el : (wordsP ⟨name, true, (kn : Int), low, high, 0, words⟩).length = 3 + words.length := by rw [e]; simp; omega
        exact ⟨v', rfl, by rw [el, e]; exact OW3.out, GW3.out⟩
      · have ec : (count != 0) = true := by rw [bne_iff_ne]; exact hc0
        have hcat : ¬ (9223372036854775807 < 1 + (Lib.itoa count).length) := by have := itoa_len (n := count) (by omega) (by omega); omega
        go_enter Tryz.func48, Tryz.ntmps48
        go_wp2_with (first | (at_builtin; rw [hw0.out]; refine wpList_append_own _ rfl _ _ 26 rfl w.heap.size 9 j0 (.string ⟨#[]⟩) 1 16 Tryz.underlying26 hj hy0 hy1 hy2 rfl (by decide) (.slice (some ⟨w.heap.size + 1, 0, none⟩) 1 1) 1 (strV [name]) rfl (OW0.out.alloc _) ⟨w.heap.size + 1 + 1, 0, none⟩ 1 1 (strV [reqS]) rfl rfl (row_cells (row_at (Row.new w0 #[.string (bs (reqS))] 9) Z0.out)) (strV_one _) (by unfold maxLen; omega) (by omega) (by have := GW0.out.size; simp; omega) ?_; intro v' w1 hown' hgrow hnil; obtain ⟨va1, vc1, rfl⟩ := owns_slice hown'; have OW1 : Hid (w1.ownsRow w.heap.size 9 1 (.slice va1 2 vc1) 2 (strV [name, reqS])) := Lib.hid (by simpa [strV] using hown'); have RW1 := Lib.hid ((RW0.out.alloc (.cells #[.string (bs (reqS))] 9)).kept hgrow ((RW0.out.alloc _).ty.ne (OW0.out.alloc (.cells #[.string (bs (reqS))] 9)) (by decide))); have GW1 := Lib.hid ((GW0.out.alloc (.cells #[.string (bs (reqS))] 9)).grown hgrow (fun k e => ((OW0.out.alloc (.cells #[.string (bs (reqS))] 9)).lt k e).1)); have cq1 := RW1.out.cell 1 (by simp); have ck1 := RW1.out.cell 2 (by simp); have cl1 := RW1.out.cell 3 (by simp); have ch1 := RW1.out.cell 4 (by simp); have cc1 := RW1.out.cell 5 (by simp); have cw1 := RW1.out.cell 6 (by simp); simp only [List.getElem_cons_succ, List.getElem_cons_zero] at cq1 ck1 cl1 ch1 cc1 cw1; have hx1 := has_of_cell cq1; have ck1x := KW.out _ GW1.out; have hk1x := has_of_cell ck1x; clear hown' hgrow hnil) | (at_builtin; refine wpList_append_own _ rfl _ _ 26 rfl w.heap.size 9 j0 (.string ⟨#[]⟩) 1 16 Tryz.underlying26 hj hy0 hy1 hy2 rfl (by decide) (.slice va1 2 vc1) 2 (strV [name, reqS]) rfl (OW1.out.alloc _) ⟨w1.heap.size, 0, none⟩ 1 1 (strV [K]) rfl rfl (row_cells (Row.new w1 #[.string (bs (K))] 9)) (strV_one _) (by unfold maxLen; omega) (by omega) (by have := GW1.out.size; simp; omega) ?_; intro v' w2 hown' hgrow hnil; obtain ⟨va2, vc2, rfl⟩ := owns_slice hown'; have OW2 : Hid (w2.ownsRow w.heap.size 9 1 (.slice va2 3 vc2) 3 (strV [name, reqS, K])) := Lib.hid (by simpa [strV] using hown'); have RW2 := Lib.hid ((RW1.out.alloc (.cells #[.string (bs (K))] 9)).kept hgrow ((RW1.out.alloc _).ty.ne (OW1.out.alloc (.cells #[.string (bs (K))] 9)) (by decide))); have GW2 := Lib.hid ((GW1.out.alloc (.cells #[.string (bs (K))] 9)).grown hgrow (fun k e => ((OW1.out.alloc (.cells #[.string (bs (K))] 9)).lt k e).1)); have cq2 := RW2.out.cell 1 (by simp); have ck2 := RW2.out.cell 2 (by simp); have cl2 := RW2.out.cell 3 (by simp); have ch2 := RW2.out.cell 4 (by simp); have cc2 := RW2.out.cell 5 (by simp); have cw2 := RW2.out.cell 6 (by simp); simp only [List.getElem_cons_succ, List.getElem_cons_zero] at cq2 ck2 cl2 ch2 cc2 cw2; have hx2 := has_of_cell cq2; have ck2x := KW.out _ GW2.out; have hk2x := has_of_cell ck2x; clear hown' hgrow hnil) | (go_at_call 87; refine (itoa_any count _ (by omega) (by omega) (PW.out.gr GW2.out)).mono ?_; rintro e w3 ⟨rfl, hg⟩; have OW3 := Lib.hid (Gr.owns OW2.out hg); have RW3 := Lib.hid (RW2.out.gr hg); have GW3 := Lib.hid (GW2.out.trans hg); have cq3 := RW3.out.cell 1 (by simp); have ck3 := RW3.out.cell 2 (by simp); have cl3 := RW3.out.cell 3 (by simp); have ch3 := RW3.out.cell 4 (by simp); have cc3 := RW3.out.cell 5 (by simp); have cw3 := RW3.out.cell 6 (by simp); simp only [List.getElem_cons_succ, List.getElem_cons_zero] at cq3 ck3 cl3 ch3 cc3 cw3; have hx3 := has_of_cell cq3; have ck3x := KW.out _ GW3.out; have hk3x := has_of_cell ck3x; clear hg) | (at_builtin; refine wpList_append_own _ rfl _ _ 26 rfl w.heap.size 9 j0 (.string ⟨#[]⟩) 1 16 Tryz.underlying26 hj hy0 hy1 hy2 rfl (by decide) (.slice va2 3 vc2) 3 (strV [name, reqS, K]) rfl (OW3.out.alloc _) ⟨w3.heap.size, 0, none⟩ 1 1 (strV [(120 :: Lib.itoa count)]) rfl rfl (row_cells (Row.new w3 #[.string (bs ((120 :: Lib.itoa count)))] 9)) (strV_one _) (by unfold maxLen; omega) (by omega) (by have := GW3.out.size; simp; omega) ?_; intro v' w4 hown' hgrow hnil; obtain ⟨va4, vc4, rfl⟩ := owns_slice hown'; have OW4 : Hid (w4.ownsRow w.heap.size 9 1 (.slice va4 4 vc4) 4 (strV [name, reqS, K, (120 :: Lib.itoa count)])) := Lib.hid (by simpa [strV] using hown'); have RW4 := Lib.hid ((RW3.out.alloc (.cells #[.string (bs ((120 :: Lib.itoa count)))] 9)).kept hgrow ((RW3.out.alloc _).ty.ne (OW3.out.alloc (.cells #[.string (bs ((120 :: Lib.itoa count)))] 9)) (by decide))); have GW4 := Lib.hid ((GW3.out.alloc (.cells #[.string (bs ((120 :: Lib.itoa count)))] 9)).grown hgrow (fun k e => ((OW3.out.alloc (.cells #[.string (bs ((120 :: Lib.itoa count)))] 9)).lt k e).1)); have cq4 := RW4.out.cell 1 (by simp); have ck4 := RW4.out.cell 2 (by simp); have cl4 := RW4.out.cell 3 (by simp); have ch4 := RW4.out.cell 4 (by simp); have cc4 := RW4.out.cell 5 (by simp); have cw4 := RW4.out.cell 6 (by simp); simp only [List.getElem_cons_succ, List.getElem_cons_zero] at cq4 ck4 cl4 ch4 cc4 cw4; have hx4 := has_of_cell cq4; have ck4x := KW.out _ GW4.out; have hk4x := has_of_cell ck4x; clear hown' hgrow hnil) | (at_builtin; refine wpList_append_gets _ rfl _ _ 26 rfl w.heap.size 9 j0 (.string ⟨#[]⟩) 1 16 Tryz.underlying26 hj hy0 hy1 hy2 rfl (by decide) (.slice va4 4 vc4) 4 (strV [name, reqS, K, (120 :: Lib.itoa count)]) rfl OW4.out a words.length cap (strV words) rfl (gets_words (H.out.giS GW4.out)) (strV_one _) (by unfold maxLen; omega) (by omega) GW4.out.size ?_; intro v' w5 hown' hgrow hnil; have OW5 : Hid (w5.ownsRow w.heap.size 9 1 v' (4 + words.length) (strV ([name, reqS, K, (120 :: Lib.itoa count)] ++ words))) := Lib.hid (by simpa [strV] using hown'); have GW5 := Lib.hid (GW4.out.grown hgrow (fun k e => (OW4.out.lt k e).1)); clear hown' hgrow hnil) | fail)
        go_ret
        have e : wordsP ⟨name, true, (kn : Int), low, high, count, words⟩ = [name, reqS, K, (120 :: Lib.itoa count)] ++ words := by
          unfold wordsP
          simp only [KD.out]
          simp [k3z, hc0]
        have el : (wordsP ⟨name, true, (kn : Int), low, high, count, words⟩).length = 4 + words.length := by rw [e]; simp; omega
        exact ⟨v', rfl, by rw [el, e]; exact OW5.out, GW5.out⟩
  | false =>
    by_cases k3 : kn = 3
    · have e3 : ((kn : Int) == 3) = true := by rw [beq_iff_eq]; omega
      have K3 := Lib.hid (show (kn : Int) = 3 by omega)
      clear k3
      by_cases hc0 : count = 0
      · subst hc0
        have hc0 : True := trivial
        go_enter Tryz.func48, Tryz.ntmps48
        go_wp2_with (first | (at_builtin; rw [hw0.out]; refine wpList_append_own _ rfl _ _ 26 rfl w.heap.size 9 j0 (.string ⟨#[]⟩) 1 16 Tryz.underlying26 hj hy0 hy1 hy2 rfl (by decide) (.slice (some ⟨w.heap.size + 1, 0, none⟩) 1 1) 1 (strV [name]) rfl (OW0.out.alloc _) ⟨w.heap.size + 1 + 1, 0, none⟩ 1 1 (strV [K]) rfl rfl (row_cells (row_at (Row.new w0 #[.string (bs (K))] 9) Z0.out)) (strV_one _) (by unfold maxLen; omega) (by omega) (by have := GW0.out.size; simp; omega) ?_; intro v' w1 hown' hgrow hnil; obtain ⟨va1, vc1, rfl⟩ := owns_slice hown'; have OW1 : Hid (w1.ownsRow w.heap.size 9 1 (.slice va1 2 vc1) 2 (strV [name, K])) := Lib.hid (by simpa [strV] using hown'); have RW1 := Lib.hid ((RW0.out.alloc (.cells #[.string (bs (K))] 9)).kept hgrow ((RW0.out.alloc _).ty.ne (OW0.out.alloc (.cells #[.string (bs (K))] 9)) (by decide))); have GW1 := Lib.hid ((GW0.out.alloc (.cells #[.string (bs (K))] 9)).grown hgrow (fun k e => ((OW0.out.alloc (.cells #[.string (bs (K))] 9)).lt k e).1)); have cq1 := RW1.out.cell 1 (by simp); have ck1 := RW1.out.cell 2 (by simp); have cl1 := RW1.out.cell 3 (by simp); have ch1 := RW1.out.cell 4 (by simp); have cc1 := RW1.out.cell 5 (by simp); have cw1 := RW1.out.cell 6 (by simp); simp only [List.getElem_cons_succ, List.getElem_cons_zero] at cq1 ck1 cl1 ch1 cc1 cw1; have hx1 := has_of_cell cq1; have ck1x := KW.out _ GW1.out; have hk1x := has_of_cell ck1x; clear hown' hgrow hnil) | fail)
        refine wp_code_eq (c := Code.region 6 (regIn 6 Tryz.f48) true) (by kernel_rfl) (wd6 (wb := w) (x := (.slice va1 2 vc1)) (zs := [name, K]) (lo := low) (hi := high) OW1.out GW1.out (by simp) RW1.out (by have := HCL.out K3.out; omega) PW.out ?_)
        intro t3 t22 t23 t24 t25 t26 t27 t28 t29 t30 t31 t32 w2 hown hrow hgr
        obtain ⟨va2, vc2, rfl⟩ := owns_slice hown
        have OW2 : Hid (w2.ownsRow w.heap.size 9 1 (.slice va2 3 vc2) 3 (strV [name, K, (Lib.itoa low ++ 46 :: 46 :: Lib.itoa high)])) := Lib.hid hown
        have RW2 := Lib.hid hrow
        have GW2 := Lib.hid hgr
        have cq2 := RW2.out.cell 1 (by simp)
        have ck2 := RW2.out.cell 2 (by simp)
        have cl2 := RW2.out.cell 3 (by simp)
        have ch2 := RW2.out.cell 4 (by simp)
        have cc2 := RW2.out.cell 5 (by simp)
        have cw2 := RW2.out.cell 6 (by simp)
        simp only [List.getElem_cons_succ, List.getElem_cons_zero] at cq2 ck2 cl2 ch2 cc2 cw2
        have hx2 := has_of_cell cq2
        have ck2x := KW.out _ GW2.out
        have hk2x := has_of_cell ck2x
        unfold wd6A
        clear hown hrow hgr
        go_wp2_with (first | (at_builtin; refine wpList_append_gets _ rfl _ _ 26 rfl w.heap.size 9 j0 (.string ⟨#[]⟩) 1 16 Tryz.underlying26 hj hy0 hy1 hy2 rfl (by decide) (.slice va2 3 vc2) 3 (strV [name, K, (Lib.itoa low ++ 46 :: 46 :: Lib.itoa high)]) rfl OW2.out a words.length cap (strV words) rfl (gets_words (H.out.giS GW2.out)) (strV_one _) (by unfold maxLen; omega) (by omega) GW2.out.size ?_; intro v' w3 hown' hgrow hnil; have OW3 : Hid (w3.ownsRow w.heap.size 9 1 v' (3 + words.length) (strV ([name, K, (Lib.itoa low ++ 46 :: 46 :: Lib.itoa high)] ++ words))) := Lib.hid (by simpa [strV] using hown'); have GW3 := Lib.hid (GW2.out.grown hgrow (fun k e => (OW2.out.lt k e).1)); clear hown' hgrow hnil) | fail)
        go_ret
        have e : wordsP ⟨name, false, (kn : Int), low, high, 0, words⟩ = [name, K, (Lib.itoa low ++ 46 :: 46 :: Lib.itoa high)] ++ words := by
          unfold wordsP
          simp only [KD.out]
          simp [K3.out, hc0]
        have el : (wordsP ⟨name, false, (kn : Int), low, high, 0, words⟩).length = 3 + words.length := by rw [e]; simp; omega
        exact ⟨v', rfl, by rw [el, e]; exact OW3.out, GW3.out⟩
      · have ec : (count != 0) = true := by rw [bne_iff_ne]; exact hc0
        go_enter Tryz.func48, Tryz.ntmps48
        go_wp2_with (first | (at_builtin; rw [hw0.out]; refine wpList_append_own _ rfl _ _ 26 rfl w.heap.size 9 j0 (.string ⟨#[]⟩) 1 16 Tryz.underlying26 hj hy0 hy1 hy2 rfl (by decide) (.slice (some ⟨w.heap.size + 1, 0, none⟩) 1 1) 1 (strV [name]) rfl (OW0.out.alloc _) ⟨w.heap.size + 1 + 1, 0, none⟩ 1 1 (strV [K]) rfl rfl (row_cells (row_at (Row.new w0 #[.string (bs (K))] 9) Z0.out)) (strV_one _) (by unfold maxLen; omega) (by omega) (by have := GW0.out.size; simp; omega) ?_; intro v' w1 hown' hgrow hnil; obtain ⟨va1, vc1, rfl⟩ := owns_slice hown'; have OW1 : Hid (w1.ownsRow w.heap.size 9 1 (.slice va1 2 vc1) 2 (strV [name, K])) := Lib.hid (by simpa [strV] using hown'); have RW1 := Lib.hid ((RW0.out.alloc (.cells #[.string (bs (K))] 9)).kept hgrow ((RW0.out.alloc _).ty.ne (OW0.out.alloc (.cells #[.string (bs (K))] 9)) (by decide))); have GW1 := Lib.hid ((GW0.out.alloc (.cells #[.string (bs (K))] 9)).grown hgrow (fun k e => ((OW0.out.alloc (.cells #[.string (bs (K))] 9)).lt k e).1)); have cq1 := RW1.out.cell 1 (by simp); have ck1 := RW1.out.cell 2 (by simp); have cl1 := RW1.out.cell 3 (by simp); have ch1 := RW1.out.cell 4 (by simp); have cc1 := RW1.out.cell 5 (by simp); have cw1 := RW1.out.cell 6 (by simp); simp only [List.getElem_cons_succ, List.getElem_cons_zero] at cq1 ck1 cl1 ch1 cc1 cw1; have hx1 := has_of_cell cq1; have ck1x := KW.out _ GW1.out; have hk1x := has_of_cell ck1x; clear hown' hgrow hnil) | fail)
        refine wp_code_eq (c := Code.region 6 (regIn 6 Tryz.f48) true) (by kernel_rfl) (wd6 (wb := w) (x := (.slice va1 2 vc1)) (zs := [name, K]) (lo := low) (hi := high) OW1.out GW1.out (by simp) RW1.out (by have := HCL.out K3.out; omega) PW.out ?_)
        intro t3 t22 t23 t24 t25 t26 t27 t28 t29 t30 t31 t32 w2 hown hrow hgr
        obtain ⟨va2, vc2, rfl⟩ := owns_slice hown
        have OW2 : Hid (w2.ownsRow w.heap.size 9 1 (.slice va2 3 vc2) 3 (strV [name, K, (Lib.itoa low ++ 46 :: 46 :: Lib.itoa high)])) := Lib.hid hown
        have RW2 := Lib.hid hrow
        have GW2 := Lib.hid hgr
        have cq2 := RW2.out.cell 1 (by simp)
        have ck2 := RW2.out.cell 2 (by simp)
        have cl2 := RW2.out.cell 3 (by simp)
        have ch2 := RW2.out.cell 4 (by simp)
        have cc2 := RW2.out.cell 5 (by simp)
        have cw2 := RW2.out.cell 6 (by simp)
        simp only [List.getElem_cons_succ, List.getElem_cons_zero] at cq2 ck2 cl2 ch2 cc2 cw2
        have hx2 := has_of_cell cq2
        have ck2x := KW.out _ GW2.out
        have hk2x := has_of_cell ck2x
        unfold wd6A
        clear hown hrow hgr
        have hcat : ¬ (9223372036854775807 < 1 + (Lib.itoa count).length) := by have := itoa_len (n := count) (by omega) (by omega); omega
        go_wp2_with (first | (go_at_call 87; refine (itoa_any count _ (by omega) (by omega) (PW.out.gr GW2.out)).mono ?_; rintro e w3 ⟨rfl, hg⟩; have OW3 := Lib.hid (Gr.owns OW2.out hg); have RW3 := Lib.hid (RW2.out.gr hg); have GW3 := Lib.hid (GW2.out.trans hg); have cq3 := RW3.out.cell 1 (by simp); have ck3 := RW3.out.cell 2 (by simp); have cl3 := RW3.out.cell 3 (by simp); have ch3 := RW3.out.cell 4 (by simp); have cc3 := RW3.out.cell 5 (by simp); have cw3 := RW3.out.cell 6 (by simp); simp only [List.getElem_cons_succ, List.getElem_cons_zero] at cq3 ck3 cl3 ch3 cc3 cw3; have hx3 := has_of_cell cq3; have ck3x := KW.out _ GW3.out; have hk3x := has_of_cell ck3x; clear hg) | (at_builtin; refine wpList_append_own _ rfl _ _ 26 rfl w.heap.size 9 j0 (.string ⟨#[]⟩) 1 16 Tryz.underlying26 hj hy0 hy1 hy2 rfl (by decide) (.slice va2 3 vc2) 3 (strV [name, K, (Lib.itoa low ++ 46 :: 46 :: Lib.itoa high)]) rfl (OW3.out.alloc _) ⟨w3.heap.size, 0, none⟩ 1 1 (strV [(120 :: Lib.itoa count)]) rfl rfl (row_cells (Row.new w3 #[.string (bs ((120 :: Lib.itoa count)))] 9)) (strV_one _) (by unfold maxLen; omega) (by omega) (by have := GW3.out.size; simp; omega) ?_; intro v' w4 hown' hgrow hnil; obtain ⟨va4, vc4, rfl⟩ := owns_slice hown'; have OW4 : Hid (w4.ownsRow w.heap.size 9 1 (.slice va4 4 vc4) 4 (strV [name, K, (Lib.itoa low ++ 46 :: 46 :: Lib.itoa high), (120 :: Lib.itoa count)])) := Lib.hid (by simpa [strV] using hown'); have RW4 := Lib.hid ((RW3.out.alloc (.cells #[.string (bs ((120 :: Lib.itoa count)))] 9)).kept hgrow ((RW3.out.alloc _).ty.ne (OW3.out.alloc (.cells #[.string (bs ((120 :: Lib.itoa count)))] 9)) (by decide))); have GW4 := Lib.hid ((GW3.out.alloc (.cells #[.string (bs ((120 :: Lib.itoa count)))] 9)).grown hgrow (fun k e => ((OW3.out.alloc (.cells #[.string (bs ((120 :: Lib.itoa count)))] 9)).lt k e).1)); have cq4 := RW4.out.cell 1 (by simp); have ck4 := RW4.out.cell 2 (by simp); have cl4 := RW4.out.cell 3 (by simp); have ch4 := RW4.out.cell 4 (by simp); have cc4 := RW4.out.cell 5 (by simp); have cw4 := RW4.out.cell 6 (by simp); simp only [List.getElem_cons_succ, List.getElem_cons_zero] at cq4 ck4 cl4 ch4 cc4 cw4; have hx4 := has_of_cell cq4; have ck4x := KW.out _ GW4.out; have hk4x := has_of_cell ck4x; clear hown' hgrow hnil) | (at_builtin; refine wpList_append_gets _ rfl _ _ 26 rfl w.heap.size 9 j0 (.string ⟨#[]⟩) 1 16 Tryz.underlying26 hj hy0 hy1 hy2 rfl (by decide) (.slice va4 4 vc4) 4 (strV [name, K, (Lib.itoa low ++ 46 :: 46 :: Lib.itoa high), (120 :: Lib.itoa count)]) rfl OW4.out a words.length cap (strV words) rfl (gets_words (H.out.giS GW4.out)) (strV_one _) (by unfold maxLen; omega) (by omega) GW4.out.size ?_; intro v' w5 hown' hgrow hnil; have OW5 : Hid (w5.ownsRow w.heap.size 9 1 v' (4 + words.length) (strV ([name, K, (Lib.itoa low ++ 46 :: 46 :: Lib.itoa high), (120 :: Lib.itoa count)] ++ words))) := Lib.hid (by simpa [strV] using hown'); have GW5 := Lib.hid (GW4.out.grown hgrow (fun k e => (OW4.out.lt k e).1)); clear hown' hgrow hnil) | fail)
        go_ret
        have e : wordsP ⟨name, false, (kn : Int), low, high, count, words⟩ = [name, K, (Lib.itoa low ++ 46 :: 46 :: Lib.itoa high), (120 :: Lib.itoa count)] ++ words := by
          unfold wordsP
          simp only [KD.out]
          simp [K3.out, hc0]
        have el : (wordsP ⟨name, false, (kn : Int), low, high, count, words⟩).length = 4 + words.length := by rw [e]; simp; omega
        exact ⟨v', rfl, by rw [el, e]; exact OW5.out, GW5.out⟩
    · have k3z : ¬ (kn : Int) = 3 := by omega
      have e3 : ((kn : Int) == 3) = false := by rw [beq_eq_false_iff_ne]; omega
      by_cases hc0 : count = 0
      · subst hc0
        have hc0 : True := trivial
        go_enter Tryz.func48, Tryz.ntmps48
        go_wp2_with (first | (at_builtin; rw [hw0.out]; refine wpList_append_own _ rfl _ _ 26 rfl w.heap.size 9 j0 (.string ⟨#[]⟩) 1 16 Tryz.underlying26 hj hy0 hy1 hy2 rfl (by decide) (.slice (some ⟨w.heap.size + 1, 0, none⟩) 1 1) 1 (strV [name]) rfl (OW0.out.alloc _) ⟨w.heap.size + 1 + 1, 0, none⟩ 1 1 (strV [K]) rfl rfl (row_cells (row_at (Row.new w0 #[.string (bs (K))] 9) Z0.out)) (strV_one _) (by unfold maxLen; omega) (by omega) (by have := GW0.out.size; simp; omega) ?_; intro v' w1 hown' hgrow hnil; obtain ⟨va1, vc1, rfl⟩ := owns_slice hown'; have OW1 : Hid (w1.ownsRow w.heap.size 9 1 (.slice va1 2 vc1) 2 (strV [name, K])) := Lib.hid (by simpa [strV] using hown'); have RW1 := Lib.hid ((RW0.out.alloc (.cells #[.string (bs (K))] 9)).kept hgrow ((RW0.out.alloc _).ty.ne (OW0.out.alloc (.cells #[.string (bs (K))] 9)) (by decide))); have GW1 := Lib.hid ((GW0.out.alloc (.cells #[.string (bs (K))] 9)).grown hgrow (fun k e => ((OW0.out.alloc (.cells #[.string (bs (K))] 9)).lt k e).1)); have cq1 := RW1.out.cell 1 (by simp); have ck1 := RW1.out.cell 2 (by simp); have cl1 := RW1.out.cell 3 (by simp); have ch1 := RW1.out.cell 4 (by simp); have cc1 := RW1.out.cell 5 (by simp); have cw1 := RW1.out.cell 6 (by simp); simp only [List.getElem_cons_succ, List.getElem_cons_zero] at cq1 ck1 cl1 ch1 cc1 cw1; have hx1 := has_of_cell cq1; have ck1x := KW.out _ GW1.out; have hk1x := has_of_cell ck1x; clear hown' hgrow hnil) | (at_builtin; refine wpList_append_gets _ rfl _ _ 26 rfl w.heap.size 9 j0 (.string ⟨#[]⟩) 1 16 Tryz.underlying26 hj hy0 hy1 hy2 rfl (by decide) (.slice va1 2 vc1) 2 (strV [name, K]) rfl OW1.out a words.length cap (strV words) rfl (gets_words (H.out.giS GW1.out)) (strV_one _) (by unfold maxLen; omega) (by omega) GW1.out.size ?_; intro v' w2 hown' hgrow hnil; have OW2 : Hid (w2.ownsRow w.heap.size 9 1 v' (2 + words.length) (strV ([name, K] ++ words))) := Lib.hid (by simpa [strV] using hown'); have GW2 := Lib.hid (GW1.out.grown hgrow (fun k e => (OW1.out.lt k e).1)); clear hown' hgrow hnil) | fail)
        go_ret
        have e : wordsP ⟨name, false, (kn : Int), low, high, 0, words⟩ = [name, K] ++ words := by
          unfold wordsP
          simp only [KD.out]
          simp [k3z, hc0]
        have el : (wordsP ⟨name, false, (kn : Int), low, high, 0, words⟩).length = 2 + words.length := by rw [e]; simp; omega
        exact ⟨v', rfl, by rw [el, e]; exact OW2.out, GW2.out⟩
      · have ec : (count != 0) = true := by rw [bne_iff_ne]; exact hc0
        have hcat : ¬ (9223372036854775807 < 1 + (Lib.itoa count).length) := by have := itoa_len (n := count) (by omega) (by omega); omega
        go_enter Tryz.func48, Tryz.ntmps48
        go_wp2_with (first | (at_builtin; rw [hw0.out]; refine wpList_append_own _ rfl _ _ 26 rfl w.heap.size 9 j0 (.string ⟨#[]⟩) 1 16 Tryz.underlying26 hj hy0 hy1 hy2 rfl (by decide) (.slice (some ⟨w.heap.size + 1, 0, none⟩) 1 1) 1 (strV [name]) rfl (OW0.out.alloc _) ⟨w.heap.size + 1 + 1, 0, none⟩ 1 1 (strV [K]) rfl rfl (row_cells (row_at (Row.new w0 #[.string (bs (K))] 9) Z0.out)) (strV_one _) (by unfold maxLen; omega) (by omega) (by have := GW0.out.size; simp; omega) ?_; intro v' w1 hown' hgrow hnil; obtain ⟨va1, vc1, rfl⟩ := owns_slice hown'; have OW1 : Hid (w1.ownsRow w.heap.size 9 1 (.slice va1 2 vc1) 2 (strV [name, K])) := Lib.hid (by simpa [strV] using hown'); have RW1 := Lib.hid ((RW0.out.alloc (.cells #[.string (bs (K))] 9)).kept hgrow ((RW0.out.alloc _).ty.ne (OW0.out.alloc (.cells #[.string (bs (K))] 9)) (by decide))); have GW1 := Lib.hid ((GW0.out.alloc (.cells #[.string (bs (K))] 9)).grown hgrow (fun k e => ((OW0.out.alloc (.cells #[.string (bs (K))] 9)).lt k e).1)); have cq1 := RW1.out.cell 1 (by simp); have ck1 := RW1.out.cell 2 (by simp); have cl1 := RW1.out.cell 3 (by simp); have ch1 := RW1.out.cell 4 (by simp); have cc1 := RW1.out.cell 5 (by simp); have cw1 := RW1.out.cell 6 (by simp); simp only [List.getElem_cons_succ, List.getElem_cons_zero] at cq1 ck1 cl1 ch1 cc1 cw1; have hx1 := has_of_cell cq1; have ck1x := KW.out _ GW1.out; have hk1x := has_of_cell ck1x; clear hown' hgrow hnil) | (go_at_call 87; refine (itoa_any count _ (by omega) (by omega) (PW.out.gr GW1.out)).mono ?_; rintro e w2 ⟨rfl, hg⟩; have OW2 := Lib.hid (Gr.owns OW1.out hg); have RW2 := Lib.hid (RW1.out.gr hg); have GW2 := Lib.hid (GW1.out.trans hg); have cq2 := RW2.out.cell 1 (by simp); have ck2 := RW2.out.cell 2 (by simp); have cl2 := RW2.out.cell 3 (by simp); have ch2 := RW2.out.cell 4 (by simp); have cc2 := RW2.out.cell 5 (by simp); have cw2 := RW2.out.cell 6 (by simp); simp only [List.getElem_cons_succ, List.getElem_cons_zero] at cq2 ck2 cl2 ch2 cc2 cw2; have hx2 := has_of_cell cq2; have ck2x := KW.out _ GW2.out; have hk2x := has_of_cell ck2x; clear hg) | (at_builtin; refine wpList_append_own _ rfl _ _ 26 rfl w.heap.size 9 j0 (.string ⟨#[]⟩) 1 16 Tryz.underlying26 hj hy0 hy1 hy2 rfl (by decide) (.slice va1 2 vc1) 2 (strV [name, K]) rfl (OW2.out.alloc _) ⟨w2.heap.size, 0, none⟩ 1 1 (strV [(120 :: Lib.itoa count)]) rfl rfl (row_cells (Row.new w2 #[.string (bs ((120 :: Lib.itoa count)))] 9)) (strV_one _) (by unfold maxLen; omega) (by omega) (by have := GW2.out.size; simp; omega) ?_; intro v' w3 hown' hgrow hnil; obtain ⟨va3, vc3, rfl⟩ := owns_slice hown'; have OW3 : Hid (w3.ownsRow w.heap.size 9 1 (.slice va3 3 vc3) 3 (strV [name, K, (120 :: Lib.itoa count)])) := Lib.hid (by simpa [strV] using hown'); have RW3 := Lib.hid ((RW2.out.alloc (.cells #[.string (bs ((120 :: Lib.itoa count)))] 9)).kept hgrow ((RW2.out.alloc _).ty.ne (OW2.out.alloc (.cells #[.string (bs ((120 :: Lib.itoa count)))] 9)) (by decide))); have GW3 := Lib.hid ((GW2.out.alloc (.cells #[.string (bs ((120 :: Lib.itoa count)))] 9)).grown hgrow (fun k e => ((OW2.out.alloc (.cells #[.string (bs ((120 :: Lib.itoa count)))] 9)).lt k e).1)); have cq3 := RW3.out.cell 1 (by simp); have ck3 := RW3.out.cell 2 (by simp); have cl3 := RW3.out.cell 3 (by simp); have ch3 := RW3.out.cell 4 (by simp); have cc3 := RW3.out.cell 5 (by simp); have cw3 := RW3.out.cell 6 (by simp); simp only [List.getElem_cons_succ, List.getElem_cons_zero] at cq3 ck3 cl3 ch3 cc3 cw3; have hx3 := has_of_cell cq3; have ck3x := KW.out _ GW3.out; have hk3x := has_of_cell ck3x; clear hown' hgrow hnil) | (at_builtin; refine wpList_append_gets _ rfl _ _ 26 rfl w.heap.size 9 j0 (.string ⟨#[]⟩) 1 16 Tryz.underlying26 hj hy0 hy1 hy2 rfl (by decide) (.slice va3 3 vc3) 3 (strV [name, K, (120 :: Lib.itoa count)]) rfl OW3.out a words.length cap (strV words) rfl (gets_words (H.out.giS GW3.out)) (strV_one _) (by unfold maxLen; omega) (by omega) GW3.out.size ?_; intro v' w4 hown' hgrow hnil; have OW4 : Hid (w4.ownsRow w.heap.size 9 1 v' (3 + words.length) (strV ([name, K, (120 :: Lib.itoa count)] ++ words))) := Lib.hid (by simpa [strV] using hown'); have GW4 := Lib.hid (GW3.out.grown hgrow (fun k e => (OW3.out.lt k e).1)); clear hown' hgrow hnil) | fail)
        go_ret
        have e : wordsP ⟨name, false, (kn : Int), low, high, count, words⟩ = [name, K, (120 :: Lib.itoa count)] ++ words := by
          unfold wordsP
          simp only [KD.out]
          simp [k3z, hc0]
        have el : (wordsP ⟨name, false, (kn : Int), low, high, count, words⟩).length = 3 + words.length := by rw [e]; simp; omega
        exact ⟨v', rfl, by rw [el, e]; exact OW4.out, GW4.out⟩
end Go.Proofs.YtadldblpkgackaaGreatDoor

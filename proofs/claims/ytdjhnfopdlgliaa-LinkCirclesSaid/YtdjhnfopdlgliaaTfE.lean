/- The walk of LinkCircles. -/
import Derived.Test.YtdjhnfopdlgliaaTfG
import Derived.WalkMore
import Derived.Deep.DeepMust
set_option linter.unusedVariables false
set_option linter.unusedSimpArgs false
namespace Go.Proofs.Ytdjhnfopdlgliaa
open Go.RowKit
open Classical

@[simp, go_sem] theorem nil_bs (l : St) : (⟨#[]⟩ : ByteArray) ++ bs l = bs l := bs_append [] l
theorem cvT_snoc (k i j : Nat) : cvT (k + 1) i j = cvT k i j ++ [cvN i j (k + 1)] := by
  unfold cvT
  rw [List.range'_concat, List.map_append]
  simp [Nat.add_comm]
theorem str1 (m : Nat) (h : m < 256) : strOfNums [(m : Int)] = bs [UInt8.ofNat m] := by
  unfold strOfNums bs
  simp only [List.map_cons, List.map_nil]
  rw [show (UInt8.ofNat (Int.toNat (m : Int))) = UInt8.ofNat m from rfl]
theorem wp_wld {P : Program} {c : Code} {fr : Act} {w w' : World} {Q : Exit → Act → World → Prop} (h : w = w') (k : Code.wp P c Q fr w') : Code.wp P c Q fr w := by
  rw [h]; exact k
theorem encNd_one (t : NT) : ∀ u ∈ encNd t, u.oneCell' = true := by
  intro u hu
  unfold encNd at hu
  simp only [List.mem_cons, List.not_mem_nil, or_false] at hu
  rcases hu with rfl | rfl | rfl <;> rfl
set_option maxRecDepth 100000 in
set_option maxHeartbeats 16000000 in
theorem linkCircles_any (n f b : Nat) (hn : n < 256) (hf : f < 256) (hb : b < 256) (w : World) :
    Calls Try.prog 4 #[.int .u8 n, .int .u8 f, .int .u8 b] w (Grows w (.bool true)) := by
  obtain ⟨k, hk⟩ : ∃ k : Nat, k = 2 + n % 6 := ⟨_, rfl⟩
  obtain ⟨i, hi⟩ : ∃ i : Nat, i = 1 + f % k := ⟨_, rfl⟩
  obtain ⟨j, hj⟩ : ∃ j : Nat, j = 1 + b % k := ⟨_, rfl⟩
  have hk2 : 2 ≤ k := by omega
  have hk8 : k < 8 := by omega
  have hik : i ≤ k := by have := Nat.mod_lt f (show 0 < k by omega); omega
  have hjk : j ≤ k := by have := Nat.mod_lt b (show 0 < k by omega); omega
  have hi1 : 1 ≤ i := by omega
  have hj1 : 1 ≤ j := by omega
  obtain ⟨n6, hn6⟩ : ∃ n6 : Nat, n6 = n % 6 := ⟨_, rfl⟩
  have en : (n : Int) % 6 = (n6 : Int) := by omega
  have ek : 2 + (n6 : Int) = (k : Int) := by omega
  have nk : ((k : Int) == 0) = false := by rw [beq_eq_false_iff_ne]; omega
  have ei : 1 + (f : Int) % (k : Int) = (i : Int) := by omega
  have ej : 1 + (b : Int) % (k : Int) = (j : Int) := by omega
  clear hk hi hj hn6
  obtain ⟨j0, hj0, hy0, hy1, hy2⟩ := info_parts infoPr
  obtain ⟨i1, hi1', hz0, hz1, hz2⟩ := info_parts infoNd
  go_enter Try.func4, Try.ntmps4
  go_wp2_with fail
  clear en ek ei ej nk
  have R0 := Lib.hid (Row.new w #[.int .i64 (-1), .string (bs []), .slice none 0 0] 26)
  obtain ⟨W1, hW1⟩ : ∃ W : World, Hid (W = w.alloc (.cells #[.int .i64 (-1), .string (bs []), .slice none 0 0] 26)) := ⟨_, Lib.hid rfl⟩
  obtain ⟨NB0, hNB0⟩ : ∃ N : Nat, Hid (w.heap.size = N) := ⟨_, Lib.hid rfl⟩
  have z1 : Hid (W1.heap.size = NB0 + 1) := Lib.hid (by rw [hW1.out, ← hNB0.out]; simp)
  have R1 := Lib.hid (Row.new W1 #[.slice (some ⟨NB0, 0, none⟩) 1 1] 32)
  obtain ⟨W2, hW2⟩ : ∃ W : World, Hid (W = W1.alloc (.cells #[.slice (some ⟨NB0, 0, none⟩) 1 1] 32)) := ⟨_, Lib.hid rfl⟩
  have G2 : Hid (Gr w W2) := Lib.hid (by rw [hW2.out, hW1.out]; exact ((Gr.refl _).alloc _).alloc _)
  rw [← hW1.out, hNB0.out] at R0
  rw [← hW2.out, z1.out] at R1
  have R02 := Lib.hid (R0.out.gr (show Gr W1 W2 by rw [hW2.out]; exact (Gr.refl _).alloc _))
  rw [hNB0.out]
  refine wp_wld (w' := W2) (by rw [hW2.out, hW1.out]; rfl) ?_
  obtain ⟨XB, hXB⟩ : ∃ N : Nat, Hid (NB0 + 1 = N) := ⟨_, Lib.hid rfl⟩
  rw [hXB.out] at R1 ⊢
  have sb : Hid (w.heap.size ≤ NB0) := Lib.hid (by rw [hNB0.out]; exact Nat.le_refl _)
  have sx : Hid (w.heap.size ≤ XB) := Lib.hid (by rw [← hXB.out, hNB0.out]; omega)
  clear hW1 hW2 hNB0 z1 R0
  go_loopw [11] (fun m wr => ∃ (m0 : Nat) (ts : List NT) (va : Option Addr) (vc : Nat), m0 ≤ k ∧ m = .int .i64 ((m0 + 1 : Nat) : Int) ∧ ts.map NT.n = cvT m0 i j ∧ wr.ownsRow w.heap.size 26 3 (.slice va ts.length vc) ts.length (ts.flatMap encNd) ∧ (∀ t ∈ ts, PO w.heap.size wr t) ∧ Row wr XB 32 [.slice va ts.length vc] ∧ Gr w wr) (fun m _ => k + 1 - (intOf m).toNat)
  case atStart =>
    refine ⟨0, [⟨⟨-1, [], []⟩, none, 0⟩], some ⟨NB0, 0, none⟩, 1, Nat.zero_le _, rfl, rfl, ?_, ?_, R1.out, G2.out⟩
    · exact row_owns (n := 1) R02.out sb.out rfl (by unfold maxLen; omega)
    · intro t ht
      rw [List.mem_singleton.1 ht]
      exact World.ownsRow_nil _ _ _ _
  case round =>
    clear R1 R02 G2
    obtain ⟨m0, ts, va, vc, hm0, rfl, hts, how, hpo, hrx, hg⟩ := hrel
    have TS := Lib.hid hts
    have OW := Lib.hid how
    have PW := Lib.hid hpo
    have RX := Lib.hid hrx
    have HG := Lib.hid hg
    have tsl : ts.length = m0 + 1 := by have := congrArg List.length hts; rw [List.length_map, cvT_len] at this; exact this
    have TSL := Lib.hid tsl
    have tsl8 : ts.length ≤ 8 := by omega
    clear hts how hpo hrx hg tsl
    by_cases hlt : m0 + 1 ≤ k
    · obtain ⟨m, hm⟩ : ∃ m, m0 + 1 = m := ⟨_, rfl⟩
      rw [hm] at hlt ⊢
      have HM := Lib.hid hm
      have e1 : (m : Int) ≤ k := by omega
      obtain ⟨c, hc⟩ : ∃ c : Nat, c = 97 + m := ⟨_, rfl⟩
      have e2 : 97 + (m : Int) = (c : Int) := by omega
      have e3 : c < 256 := by omega
      have HCM := Lib.hid hc
      have hcv := run_convert_bytes_arg (P := Try.prog) (wr.alloc (.cells #[.int .u8 (c : Int)] 5)) 42 5 Try.underlying42 Try.underlying5 wr.heap.size 0 1 1 [(c : Int)] rfl
        (fun i hi => by
          have := (Row.new wr #[.int .u8 (c : Int)] 5).cell i (by simpa using hi)
          rw [Nat.zero_add, this]
          match i, hi with
          | 0, _ => rfl) 9 Try.underlying9
      rw [str1 c e3] at hcv
      have m1 : 1 ≤ m := by omega
      clear hm hc
      obtain ⟨q, hq⟩ : ∃ q : Nat, q = 100 + m := ⟨_, rfl⟩
      have eq1 : (100 : Int) + (m : Int) = (q : Int) := by omega
      obtain ⟨p, hp⟩ : ∃ p : Nat, p = 100 + m - 1 := ⟨_, rfl⟩
      obtain ⟨r, hr⟩ : ∃ r : Nat, r = 100 + j := ⟨_, rfl⟩
      have eq2 : (q : Int) - 1 = (p : Int) := by omega
      have eq3 : (100 : Int) + (j : Int) = (r : Int) := by omega
      have HP := Lib.hid hp
      have HR := Lib.hid hr
      have p8 : p ≤ 108 := by omega
      have r8 : r ≤ 108 := by omega
      have HQ := Lib.hid hq
      have q8 : q ≤ 108 := by omega
      clear hq hp hr
      obtain ⟨NB, hNB⟩ : ∃ N : Nat, Hid (wr.heap.size + 1 = N) := ⟨_, Lib.hid rfl⟩
      have RB := Lib.hid (Row.new (wr.alloc (.cells #[.int .u8 (c : Int)] 5)) #[.int .i64 0, .string (bs [UInt8.ofNat c]), .slice none 0 0] 26)
      rw [World.size_alloc, hNB.out] at RB
      obtain ⟨WN, hWN⟩ : ∃ W : World, Hid ((wr.alloc (.cells #[.int .u8 (c : Int)] 5)).alloc (.cells #[.int .i64 0, .string (bs [UInt8.ofNat c]), .slice none 0 0] 26) = W) := ⟨_, Lib.hid rfl⟩
      have GN : Hid (Gr wr WN) := Lib.hid (by rw [← hWN.out]; exact ((Gr.refl _).alloc _).alloc _)
      rw [hWN.out] at RB
      have zN : Hid (WN.heap.size = NB + 1) := Lib.hid (by rw [← hWN.out, ← hNB.out]; simp)
      rcases Nat.lt_or_ge 1 m with c1 | c1
      · have e4 : (1 : Int) < (m : Int) := by omega
        go_wp2_with fail
        rw [hWN.out, hNB.out]
        refine (cellsNew [p] WN #[.int .i64 (p : Int)] rfl (by simp; omega) (by simp) (by simp) 1 (NB + 1) rfl zN.out).mono ?_
        rintro e wB ⟨rfl, hgB⟩
        have GB := Lib.hid hgB
        clear hgB hcv
        have hcat : ¬ (9223372036854775807 < (cellsS [p]).length + (cellsS [r]).length) := by rw [cellsS_length, cellsS_length]; simp
        by_cases c2 : m = i ∧ i ≤ j
        · obtain ⟨c3, e6⟩ := c2
          subst c3
          have hv : List.isEmpty (cellsS [p] ++ cellsS [r]) = false := rfl
          go_wp2_with fail
          refine (cellsNew [r] wB #[.int .i64 (r : Int)] rfl (by simp; omega) (by simp) (by simp) 1 _ rfl rfl).mono ?_
          rintro e wC ⟨rfl, hgC⟩
          have GC := Lib.hid (GN.out.trans (GB.out.trans hgC))
          have GWC := Lib.hid (GB.out.trans hgC)
          have RC := Lib.hid (RB.out.gr (GB.out.trans hgC))
          clear hgC
          have b2 := RC.out.cell 2 (by simp)
          simp only [List.getElem_cons_succ, List.getElem_cons_zero] at b2
          have hh := has_of_cell b2
          have hsz : NB + 1 ≤ wC.heap.size := by rw [← zN.out]; exact GWC.out.size
          have CV : Hid (cvV m j m = cellsS [p] ++ cellsS [r]) := Lib.hid (by unfold cvV; rw [if_pos c1, if_pos ⟨rfl, e6⟩, HP.out, HR.out])
          go_wp2_with (at_builtin; refine wpList_append_own _ rfl _ _ 24 rfl (NB + 1) 29 j0 (.agg #[.string ⟨#[]⟩, .string ⟨#[]⟩]) 2 32 Try.underlying24 hj0 hy0 hy1 hy2 rfl (by decide) (.slice none 0 0) 0 [] rfl (World.ownsRow_nil _ _ _ _) ⟨wC.heap.size, 0, none⟩ 1 1 (encPr ⟨sC, cellsS [p] ++ cellsS [r]⟩) rfl rfl (row_cells (Row.new wC #[.string (bs sC), .string (bs (cellsS [p] ++ cellsS [r]))] 29)) (encPr_one _) (by unfold maxLen; omega) (by omega) (by simp; omega) ?_; intro v' wz hown' hgrow hnil; obtain ⟨pa, pc, rfl⟩ := owns_slice hown'; have HOz := Lib.hid hown'; have GZ := Lib.hid (((GC.out.alloc (.cells #[.string (bs sC), .string (bs (cellsS [p] ++ cellsS [r]))] 29))).grown hgrow (fun j e => by cases e)); have RZ := Lib.hid ((RC.out.alloc (.cells #[.string (bs sC), .string (bs (cellsS [p] ++ cellsS [r]))] 29)).kept hgrow (by simp [Value.ownBlock])); have b3 := RZ.out.cell 2 (by simp); simp only [List.getElem_cons_succ, List.getElem_cons_zero] at b3; have hh3 := has_of_cell b3; have hfr := RZ.out.free 2; clear hown' hgrow hnil)
          have RY : Hid (Row (wz.setCell ⟨NB, 2, none⟩ (.slice pa 1 pc)) NB 26 [.int .i64 0, .string (bs [UInt8.ofNat c]), .slice pa 1 pc]) := Lib.hid (RZ.out.set 2 (.slice pa 1 pc))
          have GY := Lib.hid (GZ.out.setc (b := NB) (o := 2) (v := .slice pa 1 pc) (show wr.heap.size ≤ NB by rw [← hNB.out]; omega))
          have OY : Hid ((wz.setCell ⟨NB, 2, none⟩ (.slice pa 1 pc)).ownsRow (NB + 1) 29 2 (.slice pa 1 pc) 1 ([(⟨sC, cellsS [p] ++ cellsS [r]⟩ : Prp)].flatMap encPr)) := Lib.hid (owns_stc (o := 2) (u := .slice pa 1 pc) HOz.out (owns_ne_ty HOz.out RZ.out.ty (by decide)))
          obtain ⟨wY, hwY⟩ : ∃ W : World, Hid (wz.setCell ⟨NB, 2, none⟩ (.slice pa 1 pc) = W) := ⟨_, Lib.hid rfl⟩
          rw [hwY.out] at RY GY OY
          refine wp_wld hwY.out ?_
          have PS : Hid (cvP m j m = [⟨sC, cellsS [p] ++ cellsS [r]⟩] ++ [⟨phS, cellsS [q]⟩]) := Lib.hid (by unfold cvP; rw [CV.out, if_neg (by simp [cellsS, cell4]), HQ.out])
          clear b2 hh b3 hh3 hfr hwY
          refine wp_code_eq (c := Code.region 16 (regIn 16 Try.f4) true) (by kernel_rfl) (lc16 (base := NB + 1) (nm := [UInt8.ofNat c]) (ps := ([⟨sC, cellsS [p] ++ cellsS [r]⟩] : List Prp)) (q := q) RY.out OY.out (by simp) (show NB + 1 ≤ wY.heap.size by have := RY.out.has; unfold Has at this; omega) ⟨eq1, by omega⟩ ?_)
          intro t80 t81 t82 t83 t84 t85 t86 t87 t88 t89 wx hfin
          obtain ⟨tv, wv, hwx, hbx, hgr, hown, hloc⟩ := hfin
          obtain ⟨qa, qc, rfl⟩ := owns_slice hown
          have RV : Hid (Row wx NB 26 [.int .i64 0, .string (bs [UInt8.ofNat c]), .slice qa 2 qc]) := Lib.hid (by rw [hwx]; exact hbx.set 2 _)
          have GV : Hid (Gr wr wx) := Lib.hid (by rw [hwx]; exact (GY.out.grown hgr (fun j e => by have := (OY.out.lt j e).1; have := hNB.out; omega)).setc (show wr.heap.size ≤ NB by rw [← hNB.out]; omega))
          have OV : Hid (wx.ownsRow (NB + 1) 29 2 (.slice qa 2 qc) 2 ((([⟨sC, cellsS [p] ++ cellsS [r]⟩] : List Prp) ++ ([⟨phS, cellsS [q]⟩] : List Prp)).flatMap encPr)) := Lib.hid (by rw [hwx]; exact owns_stc hown (owns_ne_ty hown hbx.ty (by decide)))
          have RT := Lib.hid (RX.out.gr GV.out)
          have x0 := RT.out.cell 0 (by simp)
          have n0 := RV.out.cell 0 (by simp)
          have n1 := RV.out.cell 1 (by simp)
          have n2 := RV.out.cell 2 (by simp)
          simp only [List.getElem_cons_succ, List.getElem_cons_zero] at x0 n0 n1 n2
          have hx0 := has_of_cell x0
          have hx1 := has_of_cell n0
          have OWX := Lib.hid ((Gr.owns OW.out GV.out).alloc (.cells #[.int .i64 0, .string (bs [UInt8.ofNat c]), .slice qa 2 qc] 26))
          have RTX := Lib.hid (RT.out.alloc (.cells #[.int .i64 0, .string (bs [UInt8.ofNat c]), .slice qa 2 qc] 26))
          have hsx : w.heap.size ≤ wx.heap.size := (HG.out.trans GV.out).size
          unfold lc16A
          clear hwx hbx hgr hown hloc
          go_wp2_with (at_builtin; go_must (refine wpList_append_own _ rfl _ _ 30 rfl w.heap.size 26 i1 (.agg #[.int .i64 0, .string ⟨#[]⟩, .slice none 0 0]) 3 48 Try.underlying30 hi1' hz0 hz1 hz2 rfl (by decide) (.slice va ts.length vc) ts.length (ts.flatMap encNd) rfl OWX.out ⟨wx.heap.size, 0, none⟩ 1 1 (encNd (⟨⟨0, [UInt8.ofNat c], (([⟨sC, cellsS [p] ++ cellsS [r]⟩] : List Prp) ++ ([⟨phS, cellsS [q]⟩] : List Prp))⟩, qa, qc⟩ : NT)) rfl rfl (row_cells (Row.new wx #[.int .i64 0, .string (bs [UInt8.ofNat c]), .slice qa 2 qc] 26)) (encNd_one _) (by unfold maxLen; omega) (by omega) (by simp; omega) ?_; intro v' w7 hown' hgrow hnil; have HO7 := Lib.hid hown'; have HG7 := Lib.hid hgrow; obtain ⟨za, zc, rfl⟩ := owns_slice hown'; have R7 := Lib.hid (RTX.out.kept hgrow (RTX.out.ty.ne OWX.out (by decide))); have x1 := R7.out.cell 0 (by simp); simp only [List.getElem_cons_zero] at x1; have hx2 := has_of_cell x1; have hf7 := R7.out.free 0; clear hown' hgrow hnil))
          have e1 : (ts ++ [(⟨⟨0, [UInt8.ofNat c], (([⟨sC, cellsS [p] ++ cellsS [r]⟩] : List Prp) ++ ([⟨phS, cellsS [q]⟩] : List Prp))⟩, qa, qc⟩ : NT)]).length = ts.length + 1 := by simp
          have e2 : (ts ++ [(⟨⟨0, [UInt8.ofNat c], (([⟨sC, cellsS [p] ++ cellsS [r]⟩] : List Prp) ++ ([⟨phS, cellsS [q]⟩] : List Prp))⟩, qa, qc⟩ : NT)]).flatMap encNd = ts.flatMap encNd ++ encNd (⟨⟨0, [UInt8.ofNat c], (([⟨sC, cellsS [p] ++ cellsS [r]⟩] : List Prp) ++ ([⟨phS, cellsS [q]⟩] : List Prp))⟩, qa, qc⟩ : NT) := by simp
          have CVS : cvT m m j = cvT m0 m j ++ [cvN m j m] := by have := cvT_snoc m0 m j; rw [HM.out] at this; exact this
          have O7 := owns_stc (o := 0) (u := .slice za (ts.length + 1) zc) HO7.out (owns_ne_ty HO7.out R7.out.ty (by decide))
          refine ⟨⟨m, ts ++ [(⟨⟨0, [UInt8.ofNat c], (([⟨sC, cellsS [p] ++ cellsS [r]⟩] : List Prp) ++ ([⟨phS, cellsS [q]⟩] : List Prp))⟩, qa, qc⟩ : NT)], za, zc, hlt, by go_num, ?_, by rw [e1, e2]; exact O7, ?_, by rw [e1]; exact R7.out.set 0 _, (((HG.out.trans GV.out).alloc _).grown HG7.out (fun j e => (OWX.out.lt j e).1)).setc sx.out⟩, by simp [intOf]; omega⟩
          · rw [List.map_append, TS.out, CVS]
            congr 1
            unfold cvN
            rw [PS.out, ← HCM.out]
            rfl
          · intro t ht
            rcases List.mem_append.1 ht with h | h
            · have a := ((Gr.owns (PW.out t h) GV.out).alloc (.cells #[.int .i64 0, .string (bs [UInt8.ofNat c]), .slice qa 2 qc] 26)).kept HG7.out (owns_ne ((Gr.owns (PW.out t h) GV.out).alloc _) OWX.out (by decide))
              exact owns_stc a (owns_ne_ty a R7.out.ty (by decide))
            · rw [List.mem_singleton.1 h]
              have a := (OV.out.alloc (.cells #[.int .i64 0, .string (bs [UInt8.ofNat c]), .slice qa 2 qc] 26)).kept HG7.out (owns_ne (OV.out.alloc _) OWX.out (by decide))
              exact owns_low (owns_stc a (owns_ne_ty a R7.out.ty (by decide))) (show w.heap.size ≤ NB + 1 by have := HG.out.size; have := hNB.out; omega)
        · by_cases c4 : m = i
          · subst c4
            have e6 : ¬ m ≤ j := fun q => c2 ⟨rfl, q⟩
            have CN := Lib.hid c2
            clear c2
            have hv : List.isEmpty (cellsS [p]) = false := rfl
            have GC := Lib.hid (GN.out.trans GB.out)
            have GWC := Lib.hid GB.out
            have RC := Lib.hid (RB.out.gr GB.out)
            have b2 := RC.out.cell 2 (by simp)
            simp only [List.getElem_cons_succ, List.getElem_cons_zero] at b2
            have hh := has_of_cell b2
            have hsz : NB + 1 ≤ wB.heap.size := by rw [← zN.out]; exact GWC.out.size
            have CV : Hid (cvV m j m = cellsS [p]) := Lib.hid (by unfold cvV; rw [if_pos c1, if_neg CN.out, HP.out, List.append_nil])
            go_wp2_with (at_builtin; refine wpList_append_own _ rfl _ _ 24 rfl (NB + 1) 29 j0 (.agg #[.string ⟨#[]⟩, .string ⟨#[]⟩]) 2 32 Try.underlying24 hj0 hy0 hy1 hy2 rfl (by decide) (.slice none 0 0) 0 [] rfl (World.ownsRow_nil _ _ _ _) ⟨wB.heap.size, 0, none⟩ 1 1 (encPr ⟨sC, cellsS [p]⟩) rfl rfl (row_cells (Row.new wB #[.string (bs sC), .string (bs (cellsS [p]))] 29)) (encPr_one _) (by unfold maxLen; omega) (by omega) (by simp; omega) ?_; intro v' wz hown' hgrow hnil; obtain ⟨pa, pc, rfl⟩ := owns_slice hown'; have HOz := Lib.hid hown'; have GZ := Lib.hid (((GC.out.alloc (.cells #[.string (bs sC), .string (bs (cellsS [p]))] 29))).grown hgrow (fun j e => by cases e)); have RZ := Lib.hid ((RC.out.alloc (.cells #[.string (bs sC), .string (bs (cellsS [p]))] 29)).kept hgrow (by simp [Value.ownBlock])); have b3 := RZ.out.cell 2 (by simp); simp only [List.getElem_cons_succ, List.getElem_cons_zero] at b3; have hh3 := has_of_cell b3; have hfr := RZ.out.free 2; clear hown' hgrow hnil)
            have RY : Hid (Row (wz.setCell ⟨NB, 2, none⟩ (.slice pa 1 pc)) NB 26 [.int .i64 0, .string (bs [UInt8.ofNat c]), .slice pa 1 pc]) := Lib.hid (RZ.out.set 2 (.slice pa 1 pc))
            have GY := Lib.hid (GZ.out.setc (b := NB) (o := 2) (v := .slice pa 1 pc) (show wr.heap.size ≤ NB by rw [← hNB.out]; omega))
            have OY : Hid ((wz.setCell ⟨NB, 2, none⟩ (.slice pa 1 pc)).ownsRow (NB + 1) 29 2 (.slice pa 1 pc) 1 ([(⟨sC, cellsS [p]⟩ : Prp)].flatMap encPr)) := Lib.hid (owns_stc (o := 2) (u := .slice pa 1 pc) HOz.out (owns_ne_ty HOz.out RZ.out.ty (by decide)))
            obtain ⟨wY, hwY⟩ : ∃ W : World, Hid (wz.setCell ⟨NB, 2, none⟩ (.slice pa 1 pc) = W) := ⟨_, Lib.hid rfl⟩
            rw [hwY.out] at RY GY OY
            refine wp_wld hwY.out ?_
            have PS : Hid (cvP m j m = [⟨sC, cellsS [p]⟩] ++ [⟨phS, cellsS [q]⟩]) := Lib.hid (by unfold cvP; rw [CV.out, if_neg (by simp [cellsS, cell4]), HQ.out])
            clear b2 hh b3 hh3 hfr hwY
            refine wp_code_eq (c := Code.region 16 (regIn 16 Try.f4) true) (by kernel_rfl) (lc16 (base := NB + 1) (nm := [UInt8.ofNat c]) (ps := ([⟨sC, cellsS [p]⟩] : List Prp)) (q := q) RY.out OY.out (by simp) (show NB + 1 ≤ wY.heap.size by have := RY.out.has; unfold Has at this; omega) ⟨eq1, by omega⟩ ?_)
            intro t80 t81 t82 t83 t84 t85 t86 t87 t88 t89 wx hfin
            obtain ⟨tv, wv, hwx, hbx, hgr, hown, hloc⟩ := hfin
            obtain ⟨qa, qc, rfl⟩ := owns_slice hown
            have RV : Hid (Row wx NB 26 [.int .i64 0, .string (bs [UInt8.ofNat c]), .slice qa 2 qc]) := Lib.hid (by rw [hwx]; exact hbx.set 2 _)
            have GV : Hid (Gr wr wx) := Lib.hid (by rw [hwx]; exact (GY.out.grown hgr (fun j e => by have := (OY.out.lt j e).1; have := hNB.out; omega)).setc (show wr.heap.size ≤ NB by rw [← hNB.out]; omega))
            have OV : Hid (wx.ownsRow (NB + 1) 29 2 (.slice qa 2 qc) 2 ((([⟨sC, cellsS [p]⟩] : List Prp) ++ ([⟨phS, cellsS [q]⟩] : List Prp)).flatMap encPr)) := Lib.hid (by rw [hwx]; exact owns_stc hown (owns_ne_ty hown hbx.ty (by decide)))
            have RT := Lib.hid (RX.out.gr GV.out)
            have x0 := RT.out.cell 0 (by simp)
            have n0 := RV.out.cell 0 (by simp)
            have n1 := RV.out.cell 1 (by simp)
            have n2 := RV.out.cell 2 (by simp)
            simp only [List.getElem_cons_succ, List.getElem_cons_zero] at x0 n0 n1 n2
            have hx0 := has_of_cell x0
            have hx1 := has_of_cell n0
            have OWX := Lib.hid ((Gr.owns OW.out GV.out).alloc (.cells #[.int .i64 0, .string (bs [UInt8.ofNat c]), .slice qa 2 qc] 26))
            have RTX := Lib.hid (RT.out.alloc (.cells #[.int .i64 0, .string (bs [UInt8.ofNat c]), .slice qa 2 qc] 26))
            have hsx : w.heap.size ≤ wx.heap.size := (HG.out.trans GV.out).size
            unfold lc16A
            clear hwx hbx hgr hown hloc
            go_wp2_with (at_builtin; go_must (refine wpList_append_own _ rfl _ _ 30 rfl w.heap.size 26 i1 (.agg #[.int .i64 0, .string ⟨#[]⟩, .slice none 0 0]) 3 48 Try.underlying30 hi1' hz0 hz1 hz2 rfl (by decide) (.slice va ts.length vc) ts.length (ts.flatMap encNd) rfl OWX.out ⟨wx.heap.size, 0, none⟩ 1 1 (encNd (⟨⟨0, [UInt8.ofNat c], (([⟨sC, cellsS [p]⟩] : List Prp) ++ ([⟨phS, cellsS [q]⟩] : List Prp))⟩, qa, qc⟩ : NT)) rfl rfl (row_cells (Row.new wx #[.int .i64 0, .string (bs [UInt8.ofNat c]), .slice qa 2 qc] 26)) (encNd_one _) (by unfold maxLen; omega) (by omega) (by simp; omega) ?_; intro v' w7 hown' hgrow hnil; have HO7 := Lib.hid hown'; have HG7 := Lib.hid hgrow; obtain ⟨za, zc, rfl⟩ := owns_slice hown'; have R7 := Lib.hid (RTX.out.kept hgrow (RTX.out.ty.ne OWX.out (by decide))); have x1 := R7.out.cell 0 (by simp); simp only [List.getElem_cons_zero] at x1; have hx2 := has_of_cell x1; have hf7 := R7.out.free 0; clear hown' hgrow hnil))
            have e1 : (ts ++ [(⟨⟨0, [UInt8.ofNat c], (([⟨sC, cellsS [p]⟩] : List Prp) ++ ([⟨phS, cellsS [q]⟩] : List Prp))⟩, qa, qc⟩ : NT)]).length = ts.length + 1 := by simp
            have e2 : (ts ++ [(⟨⟨0, [UInt8.ofNat c], (([⟨sC, cellsS [p]⟩] : List Prp) ++ ([⟨phS, cellsS [q]⟩] : List Prp))⟩, qa, qc⟩ : NT)]).flatMap encNd = ts.flatMap encNd ++ encNd (⟨⟨0, [UInt8.ofNat c], (([⟨sC, cellsS [p]⟩] : List Prp) ++ ([⟨phS, cellsS [q]⟩] : List Prp))⟩, qa, qc⟩ : NT) := by simp
            have CVS : cvT m m j = cvT m0 m j ++ [cvN m j m] := by have := cvT_snoc m0 m j; rw [HM.out] at this; exact this
            have O7 := owns_stc (o := 0) (u := .slice za (ts.length + 1) zc) HO7.out (owns_ne_ty HO7.out R7.out.ty (by decide))
            refine ⟨⟨m, ts ++ [(⟨⟨0, [UInt8.ofNat c], (([⟨sC, cellsS [p]⟩] : List Prp) ++ ([⟨phS, cellsS [q]⟩] : List Prp))⟩, qa, qc⟩ : NT)], za, zc, hlt, by go_num, ?_, by rw [e1, e2]; exact O7, ?_, by rw [e1]; exact R7.out.set 0 _, (((HG.out.trans GV.out).alloc _).grown HG7.out (fun j e => (OWX.out.lt j e).1)).setc sx.out⟩, by simp [intOf]; omega⟩
            · rw [List.map_append, TS.out, CVS]
              congr 1
              unfold cvN
              rw [PS.out, ← HCM.out]
              rfl
            · intro t ht
              rcases List.mem_append.1 ht with h | h
              · have a := ((Gr.owns (PW.out t h) GV.out).alloc (.cells #[.int .i64 0, .string (bs [UInt8.ofNat c]), .slice qa 2 qc] 26)).kept HG7.out (owns_ne ((Gr.owns (PW.out t h) GV.out).alloc _) OWX.out (by decide))
                exact owns_stc a (owns_ne_ty a R7.out.ty (by decide))
              · rw [List.mem_singleton.1 h]
                have a := (OV.out.alloc (.cells #[.int .i64 0, .string (bs [UInt8.ofNat c]), .slice qa 2 qc] 26)).kept HG7.out (owns_ne (OV.out.alloc _) OWX.out (by decide))
                exact owns_low (owns_stc a (owns_ne_ty a R7.out.ty (by decide))) (show w.heap.size ≤ NB + 1 by have := HG.out.size; have := hNB.out; omega)
          · have e5 : ((m : Int) == (i : Int)) = false := by rw [beq_eq_false_iff_ne]; omega
            have CN := Lib.hid c2
            clear c2 c4
            have hv : List.isEmpty (cellsS [p]) = false := rfl
            have GC := Lib.hid (GN.out.trans GB.out)
            have GWC := Lib.hid GB.out
            have RC := Lib.hid (RB.out.gr GB.out)
            have b2 := RC.out.cell 2 (by simp)
            simp only [List.getElem_cons_succ, List.getElem_cons_zero] at b2
            have hh := has_of_cell b2
            have hsz : NB + 1 ≤ wB.heap.size := by rw [← zN.out]; exact GWC.out.size
            have CV : Hid (cvV i j m = cellsS [p]) := Lib.hid (by unfold cvV; rw [if_pos c1, if_neg CN.out, HP.out, List.append_nil])
            go_wp2_with (at_builtin; refine wpList_append_own _ rfl _ _ 24 rfl (NB + 1) 29 j0 (.agg #[.string ⟨#[]⟩, .string ⟨#[]⟩]) 2 32 Try.underlying24 hj0 hy0 hy1 hy2 rfl (by decide) (.slice none 0 0) 0 [] rfl (World.ownsRow_nil _ _ _ _) ⟨wB.heap.size, 0, none⟩ 1 1 (encPr ⟨sC, cellsS [p]⟩) rfl rfl (row_cells (Row.new wB #[.string (bs sC), .string (bs (cellsS [p]))] 29)) (encPr_one _) (by unfold maxLen; omega) (by omega) (by simp; omega) ?_; intro v' wz hown' hgrow hnil; obtain ⟨pa, pc, rfl⟩ := owns_slice hown'; have HOz := Lib.hid hown'; have GZ := Lib.hid (((GC.out.alloc (.cells #[.string (bs sC), .string (bs (cellsS [p]))] 29))).grown hgrow (fun j e => by cases e)); have RZ := Lib.hid ((RC.out.alloc (.cells #[.string (bs sC), .string (bs (cellsS [p]))] 29)).kept hgrow (by simp [Value.ownBlock])); have b3 := RZ.out.cell 2 (by simp); simp only [List.getElem_cons_succ, List.getElem_cons_zero] at b3; have hh3 := has_of_cell b3; have hfr := RZ.out.free 2; clear hown' hgrow hnil)
            have RY : Hid (Row (wz.setCell ⟨NB, 2, none⟩ (.slice pa 1 pc)) NB 26 [.int .i64 0, .string (bs [UInt8.ofNat c]), .slice pa 1 pc]) := Lib.hid (RZ.out.set 2 (.slice pa 1 pc))
            have GY := Lib.hid (GZ.out.setc (b := NB) (o := 2) (v := .slice pa 1 pc) (show wr.heap.size ≤ NB by rw [← hNB.out]; omega))
            have OY : Hid ((wz.setCell ⟨NB, 2, none⟩ (.slice pa 1 pc)).ownsRow (NB + 1) 29 2 (.slice pa 1 pc) 1 ([(⟨sC, cellsS [p]⟩ : Prp)].flatMap encPr)) := Lib.hid (owns_stc (o := 2) (u := .slice pa 1 pc) HOz.out (owns_ne_ty HOz.out RZ.out.ty (by decide)))
            obtain ⟨wY, hwY⟩ : ∃ W : World, Hid (wz.setCell ⟨NB, 2, none⟩ (.slice pa 1 pc) = W) := ⟨_, Lib.hid rfl⟩
            rw [hwY.out] at RY GY OY
            refine wp_wld hwY.out ?_
            have PS : Hid (cvP i j m = [⟨sC, cellsS [p]⟩] ++ [⟨phS, cellsS [q]⟩]) := Lib.hid (by unfold cvP; rw [CV.out, if_neg (by simp [cellsS, cell4]), HQ.out])
            clear b2 hh b3 hh3 hfr hwY
            refine wp_code_eq (c := Code.region 16 (regIn 16 Try.f4) true) (by kernel_rfl) (lc16 (base := NB + 1) (nm := [UInt8.ofNat c]) (ps := ([⟨sC, cellsS [p]⟩] : List Prp)) (q := q) RY.out OY.out (by simp) (show NB + 1 ≤ wY.heap.size by have := RY.out.has; unfold Has at this; omega) ⟨eq1, by omega⟩ ?_)
            intro t80 t81 t82 t83 t84 t85 t86 t87 t88 t89 wx hfin
            obtain ⟨tv, wv, hwx, hbx, hgr, hown, hloc⟩ := hfin
            obtain ⟨qa, qc, rfl⟩ := owns_slice hown
            have RV : Hid (Row wx NB 26 [.int .i64 0, .string (bs [UInt8.ofNat c]), .slice qa 2 qc]) := Lib.hid (by rw [hwx]; exact hbx.set 2 _)
            have GV : Hid (Gr wr wx) := Lib.hid (by rw [hwx]; exact (GY.out.grown hgr (fun j e => by have := (OY.out.lt j e).1; have := hNB.out; omega)).setc (show wr.heap.size ≤ NB by rw [← hNB.out]; omega))
            have OV : Hid (wx.ownsRow (NB + 1) 29 2 (.slice qa 2 qc) 2 ((([⟨sC, cellsS [p]⟩] : List Prp) ++ ([⟨phS, cellsS [q]⟩] : List Prp)).flatMap encPr)) := Lib.hid (by rw [hwx]; exact owns_stc hown (owns_ne_ty hown hbx.ty (by decide)))
            have RT := Lib.hid (RX.out.gr GV.out)
            have x0 := RT.out.cell 0 (by simp)
            have n0 := RV.out.cell 0 (by simp)
            have n1 := RV.out.cell 1 (by simp)
            have n2 := RV.out.cell 2 (by simp)
            simp only [List.getElem_cons_succ, List.getElem_cons_zero] at x0 n0 n1 n2
            have hx0 := has_of_cell x0
            have hx1 := has_of_cell n0
            have OWX := Lib.hid ((Gr.owns OW.out GV.out).alloc (.cells #[.int .i64 0, .string (bs [UInt8.ofNat c]), .slice qa 2 qc] 26))
            have RTX := Lib.hid (RT.out.alloc (.cells #[.int .i64 0, .string (bs [UInt8.ofNat c]), .slice qa 2 qc] 26))
            have hsx : w.heap.size ≤ wx.heap.size := (HG.out.trans GV.out).size
            unfold lc16A
            clear hwx hbx hgr hown hloc
            go_wp2_with (at_builtin; go_must (refine wpList_append_own _ rfl _ _ 30 rfl w.heap.size 26 i1 (.agg #[.int .i64 0, .string ⟨#[]⟩, .slice none 0 0]) 3 48 Try.underlying30 hi1' hz0 hz1 hz2 rfl (by decide) (.slice va ts.length vc) ts.length (ts.flatMap encNd) rfl OWX.out ⟨wx.heap.size, 0, none⟩ 1 1 (encNd (⟨⟨0, [UInt8.ofNat c], (([⟨sC, cellsS [p]⟩] : List Prp) ++ ([⟨phS, cellsS [q]⟩] : List Prp))⟩, qa, qc⟩ : NT)) rfl rfl (row_cells (Row.new wx #[.int .i64 0, .string (bs [UInt8.ofNat c]), .slice qa 2 qc] 26)) (encNd_one _) (by unfold maxLen; omega) (by omega) (by simp; omega) ?_; intro v' w7 hown' hgrow hnil; have HO7 := Lib.hid hown'; have HG7 := Lib.hid hgrow; obtain ⟨za, zc, rfl⟩ := owns_slice hown'; have R7 := Lib.hid (RTX.out.kept hgrow (RTX.out.ty.ne OWX.out (by decide))); have x1 := R7.out.cell 0 (by simp); simp only [List.getElem_cons_zero] at x1; have hx2 := has_of_cell x1; have hf7 := R7.out.free 0; clear hown' hgrow hnil))
            have e1 : (ts ++ [(⟨⟨0, [UInt8.ofNat c], (([⟨sC, cellsS [p]⟩] : List Prp) ++ ([⟨phS, cellsS [q]⟩] : List Prp))⟩, qa, qc⟩ : NT)]).length = ts.length + 1 := by simp
            have e2 : (ts ++ [(⟨⟨0, [UInt8.ofNat c], (([⟨sC, cellsS [p]⟩] : List Prp) ++ ([⟨phS, cellsS [q]⟩] : List Prp))⟩, qa, qc⟩ : NT)]).flatMap encNd = ts.flatMap encNd ++ encNd (⟨⟨0, [UInt8.ofNat c], (([⟨sC, cellsS [p]⟩] : List Prp) ++ ([⟨phS, cellsS [q]⟩] : List Prp))⟩, qa, qc⟩ : NT) := by simp
            have CVS : cvT m i j = cvT m0 i j ++ [cvN i j m] := by have := cvT_snoc m0 i j; rw [HM.out] at this; exact this
            have O7 := owns_stc (o := 0) (u := .slice za (ts.length + 1) zc) HO7.out (owns_ne_ty HO7.out R7.out.ty (by decide))
            refine ⟨⟨m, ts ++ [(⟨⟨0, [UInt8.ofNat c], (([⟨sC, cellsS [p]⟩] : List Prp) ++ ([⟨phS, cellsS [q]⟩] : List Prp))⟩, qa, qc⟩ : NT)], za, zc, hlt, by go_num, ?_, by rw [e1, e2]; exact O7, ?_, by rw [e1]; exact R7.out.set 0 _, (((HG.out.trans GV.out).alloc _).grown HG7.out (fun j e => (OWX.out.lt j e).1)).setc sx.out⟩, by simp [intOf]; omega⟩
            · rw [List.map_append, TS.out, CVS]
              congr 1
              unfold cvN
              rw [PS.out, ← HCM.out]
              rfl
            · intro t ht
              rcases List.mem_append.1 ht with h | h
              · have a := ((Gr.owns (PW.out t h) GV.out).alloc (.cells #[.int .i64 0, .string (bs [UInt8.ofNat c]), .slice qa 2 qc] 26)).kept HG7.out (owns_ne ((Gr.owns (PW.out t h) GV.out).alloc _) OWX.out (by decide))
                exact owns_stc a (owns_ne_ty a R7.out.ty (by decide))
              · rw [List.mem_singleton.1 h]
                have a := (OV.out.alloc (.cells #[.int .i64 0, .string (bs [UInt8.ofNat c]), .slice qa 2 qc] 26)).kept HG7.out (owns_ne (OV.out.alloc _) OWX.out (by decide))
                exact owns_low (owns_stc a (owns_ne_ty a R7.out.ty (by decide))) (show w.heap.size ≤ NB + 1 by have := HG.out.size; have := hNB.out; omega)
      · have e4 : ¬ (1 : Int) < (m : Int) := by omega
        by_cases c2 : m = i ∧ i ≤ j
        · obtain ⟨c3, e6⟩ := c2
          subst c3
          have hv : List.isEmpty (cellsS [r]) = false := rfl
          go_wp2_with fail
          rw [hWN.out, hNB.out]
          refine (cellsNew [r] WN #[.int .i64 (r : Int)] rfl (by simp; omega) (by simp) (by simp) 1 (NB + 1) rfl zN.out).mono ?_
          rintro e wC ⟨rfl, hgC⟩
          have GC := Lib.hid (GN.out.trans hgC)
          have GWC := Lib.hid hgC
          have RC := Lib.hid (RB.out.gr hgC)
          clear hgC
          have b2 := RC.out.cell 2 (by simp)
          simp only [List.getElem_cons_succ, List.getElem_cons_zero] at b2
          have hh := has_of_cell b2
          have hsz : NB + 1 ≤ wC.heap.size := by rw [← zN.out]; exact GWC.out.size
          have CV : Hid (cvV m j m = cellsS [r]) := Lib.hid (by unfold cvV; rw [if_neg (by omega), if_pos ⟨rfl, e6⟩, HR.out]; rfl)
          go_wp2_with (at_builtin; refine wpList_append_own _ rfl _ _ 24 rfl (NB + 1) 29 j0 (.agg #[.string ⟨#[]⟩, .string ⟨#[]⟩]) 2 32 Try.underlying24 hj0 hy0 hy1 hy2 rfl (by decide) (.slice none 0 0) 0 [] rfl (World.ownsRow_nil _ _ _ _) ⟨wC.heap.size, 0, none⟩ 1 1 (encPr ⟨sC, cellsS [r]⟩) rfl rfl (row_cells (Row.new wC #[.string (bs sC), .string (bs (cellsS [r]))] 29)) (encPr_one _) (by unfold maxLen; omega) (by omega) (by simp; omega) ?_; intro v' wz hown' hgrow hnil; obtain ⟨pa, pc, rfl⟩ := owns_slice hown'; have HOz := Lib.hid hown'; have GZ := Lib.hid (((GC.out.alloc (.cells #[.string (bs sC), .string (bs (cellsS [r]))] 29))).grown hgrow (fun j e => by cases e)); have RZ := Lib.hid ((RC.out.alloc (.cells #[.string (bs sC), .string (bs (cellsS [r]))] 29)).kept hgrow (by simp [Value.ownBlock])); have b3 := RZ.out.cell 2 (by simp); simp only [List.getElem_cons_succ, List.getElem_cons_zero] at b3; have hh3 := has_of_cell b3; have hfr := RZ.out.free 2; clear hown' hgrow hnil)
          have RY : Hid (Row (wz.setCell ⟨NB, 2, none⟩ (.slice pa 1 pc)) NB 26 [.int .i64 0, .string (bs [UInt8.ofNat c]), .slice pa 1 pc]) := Lib.hid (RZ.out.set 2 (.slice pa 1 pc))
          have GY := Lib.hid (GZ.out.setc (b := NB) (o := 2) (v := .slice pa 1 pc) (show wr.heap.size ≤ NB by rw [← hNB.out]; omega))
          have OY : Hid ((wz.setCell ⟨NB, 2, none⟩ (.slice pa 1 pc)).ownsRow (NB + 1) 29 2 (.slice pa 1 pc) 1 ([(⟨sC, cellsS [r]⟩ : Prp)].flatMap encPr)) := Lib.hid (owns_stc (o := 2) (u := .slice pa 1 pc) HOz.out (owns_ne_ty HOz.out RZ.out.ty (by decide)))
          obtain ⟨wY, hwY⟩ : ∃ W : World, Hid (wz.setCell ⟨NB, 2, none⟩ (.slice pa 1 pc) = W) := ⟨_, Lib.hid rfl⟩
          rw [hwY.out] at RY GY OY
          refine wp_wld hwY.out ?_
          have PS : Hid (cvP m j m = [⟨sC, cellsS [r]⟩] ++ [⟨phS, cellsS [q]⟩]) := Lib.hid (by unfold cvP; rw [CV.out, if_neg (by simp [cellsS, cell4]), HQ.out])
          clear b2 hh b3 hh3 hfr hwY
          refine wp_code_eq (c := Code.region 16 (regIn 16 Try.f4) true) (by kernel_rfl) (lc16 (base := NB + 1) (nm := [UInt8.ofNat c]) (ps := ([⟨sC, cellsS [r]⟩] : List Prp)) (q := q) RY.out OY.out (by simp) (show NB + 1 ≤ wY.heap.size by have := RY.out.has; unfold Has at this; omega) ⟨eq1, by omega⟩ ?_)
          intro t80 t81 t82 t83 t84 t85 t86 t87 t88 t89 wx hfin
          obtain ⟨tv, wv, hwx, hbx, hgr, hown, hloc⟩ := hfin
          obtain ⟨qa, qc, rfl⟩ := owns_slice hown
          have RV : Hid (Row wx NB 26 [.int .i64 0, .string (bs [UInt8.ofNat c]), .slice qa 2 qc]) := Lib.hid (by rw [hwx]; exact hbx.set 2 _)
          have GV : Hid (Gr wr wx) := Lib.hid (by rw [hwx]; exact (GY.out.grown hgr (fun j e => by have := (OY.out.lt j e).1; have := hNB.out; omega)).setc (show wr.heap.size ≤ NB by rw [← hNB.out]; omega))
          have OV : Hid (wx.ownsRow (NB + 1) 29 2 (.slice qa 2 qc) 2 ((([⟨sC, cellsS [r]⟩] : List Prp) ++ ([⟨phS, cellsS [q]⟩] : List Prp)).flatMap encPr)) := Lib.hid (by rw [hwx]; exact owns_stc hown (owns_ne_ty hown hbx.ty (by decide)))
          have RT := Lib.hid (RX.out.gr GV.out)
          have x0 := RT.out.cell 0 (by simp)
          have n0 := RV.out.cell 0 (by simp)
          have n1 := RV.out.cell 1 (by simp)
          have n2 := RV.out.cell 2 (by simp)
          simp only [List.getElem_cons_succ, List.getElem_cons_zero] at x0 n0 n1 n2
          have hx0 := has_of_cell x0
          have hx1 := has_of_cell n0
          have OWX := Lib.hid ((Gr.owns OW.out GV.out).alloc (.cells #[.int .i64 0, .string (bs [UInt8.ofNat c]), .slice qa 2 qc] 26))
          have RTX := Lib.hid (RT.out.alloc (.cells #[.int .i64 0, .string (bs [UInt8.ofNat c]), .slice qa 2 qc] 26))
          have hsx : w.heap.size ≤ wx.heap.size := (HG.out.trans GV.out).size
          unfold lc16A
          clear hwx hbx hgr hown hloc
          go_wp2_with (at_builtin; go_must (refine wpList_append_own _ rfl _ _ 30 rfl w.heap.size 26 i1 (.agg #[.int .i64 0, .string ⟨#[]⟩, .slice none 0 0]) 3 48 Try.underlying30 hi1' hz0 hz1 hz2 rfl (by decide) (.slice va ts.length vc) ts.length (ts.flatMap encNd) rfl OWX.out ⟨wx.heap.size, 0, none⟩ 1 1 (encNd (⟨⟨0, [UInt8.ofNat c], (([⟨sC, cellsS [r]⟩] : List Prp) ++ ([⟨phS, cellsS [q]⟩] : List Prp))⟩, qa, qc⟩ : NT)) rfl rfl (row_cells (Row.new wx #[.int .i64 0, .string (bs [UInt8.ofNat c]), .slice qa 2 qc] 26)) (encNd_one _) (by unfold maxLen; omega) (by omega) (by simp; omega) ?_; intro v' w7 hown' hgrow hnil; have HO7 := Lib.hid hown'; have HG7 := Lib.hid hgrow; obtain ⟨za, zc, rfl⟩ := owns_slice hown'; have R7 := Lib.hid (RTX.out.kept hgrow (RTX.out.ty.ne OWX.out (by decide))); have x1 := R7.out.cell 0 (by simp); simp only [List.getElem_cons_zero] at x1; have hx2 := has_of_cell x1; have hf7 := R7.out.free 0; clear hown' hgrow hnil))
          have e1 : (ts ++ [(⟨⟨0, [UInt8.ofNat c], (([⟨sC, cellsS [r]⟩] : List Prp) ++ ([⟨phS, cellsS [q]⟩] : List Prp))⟩, qa, qc⟩ : NT)]).length = ts.length + 1 := by simp
          have e2 : (ts ++ [(⟨⟨0, [UInt8.ofNat c], (([⟨sC, cellsS [r]⟩] : List Prp) ++ ([⟨phS, cellsS [q]⟩] : List Prp))⟩, qa, qc⟩ : NT)]).flatMap encNd = ts.flatMap encNd ++ encNd (⟨⟨0, [UInt8.ofNat c], (([⟨sC, cellsS [r]⟩] : List Prp) ++ ([⟨phS, cellsS [q]⟩] : List Prp))⟩, qa, qc⟩ : NT) := by simp
          have CVS : cvT m m j = cvT m0 m j ++ [cvN m j m] := by have := cvT_snoc m0 m j; rw [HM.out] at this; exact this
          have O7 := owns_stc (o := 0) (u := .slice za (ts.length + 1) zc) HO7.out (owns_ne_ty HO7.out R7.out.ty (by decide))
          refine ⟨⟨m, ts ++ [(⟨⟨0, [UInt8.ofNat c], (([⟨sC, cellsS [r]⟩] : List Prp) ++ ([⟨phS, cellsS [q]⟩] : List Prp))⟩, qa, qc⟩ : NT)], za, zc, hlt, by go_num, ?_, by rw [e1, e2]; exact O7, ?_, by rw [e1]; exact R7.out.set 0 _, (((HG.out.trans GV.out).alloc _).grown HG7.out (fun j e => (OWX.out.lt j e).1)).setc sx.out⟩, by simp [intOf]; omega⟩
          · rw [List.map_append, TS.out, CVS]
            congr 1
            unfold cvN
            rw [PS.out, ← HCM.out]
            rfl
          · intro t ht
            rcases List.mem_append.1 ht with h | h
            · have a := ((Gr.owns (PW.out t h) GV.out).alloc (.cells #[.int .i64 0, .string (bs [UInt8.ofNat c]), .slice qa 2 qc] 26)).kept HG7.out (owns_ne ((Gr.owns (PW.out t h) GV.out).alloc _) OWX.out (by decide))
              exact owns_stc a (owns_ne_ty a R7.out.ty (by decide))
            · rw [List.mem_singleton.1 h]
              have a := (OV.out.alloc (.cells #[.int .i64 0, .string (bs [UInt8.ofNat c]), .slice qa 2 qc] 26)).kept HG7.out (owns_ne (OV.out.alloc _) OWX.out (by decide))
              exact owns_low (owns_stc a (owns_ne_ty a R7.out.ty (by decide))) (show w.heap.size ≤ NB + 1 by have := HG.out.size; have := hNB.out; omega)
        · by_cases c4 : m = i
          · subst c4
            exfalso
            exact c2 ⟨rfl, by omega⟩
          · have e5 : ((m : Int) == (i : Int)) = false := by rw [beq_eq_false_iff_ne]; omega
            have CN := Lib.hid c2
            clear c2 c4
            have CV : Hid (cvV i j m = []) := Lib.hid (by unfold cvV; rw [if_neg (by omega), if_neg CN.out]; rfl)
            go_wp2_with fail
            rw [hWN.out, hNB.out]
            have RY := RB
            have GY := GN
            have OY : Hid (WN.ownsRow (NB + 1) 29 2 (.slice none 0 0) 0 []) := Lib.hid (World.ownsRow_nil _ _ _ _)
            have PS : Hid (cvP i j m = [] ++ [⟨phS, cellsS [q]⟩]) := Lib.hid (by unfold cvP; rw [CV.out, if_pos rfl, HQ.out])
            refine wp_code_eq (c := Code.region 16 (regIn 16 Try.f4) true) (by kernel_rfl) (lc16 (base := NB + 1) (nm := [UInt8.ofNat c]) (ps := ([] : List Prp)) (q := q) RY.out OY.out (by simp) (show NB + 1 ≤ WN.heap.size by have := RY.out.has; unfold Has at this; omega) ⟨eq1, by omega⟩ ?_)
            intro t80 t81 t82 t83 t84 t85 t86 t87 t88 t89 wx hfin
            obtain ⟨tv, wv, hwx, hbx, hgr, hown, hloc⟩ := hfin
            obtain ⟨qa, qc, rfl⟩ := owns_slice hown
            have RV : Hid (Row wx NB 26 [.int .i64 0, .string (bs [UInt8.ofNat c]), .slice qa 1 qc]) := Lib.hid (by rw [hwx]; exact hbx.set 2 _)
            have GV : Hid (Gr wr wx) := Lib.hid (by rw [hwx]; exact (GY.out.grown hgr (fun j e => by have := (OY.out.lt j e).1; have := hNB.out; omega)).setc (show wr.heap.size ≤ NB by rw [← hNB.out]; omega))
            have OV : Hid (wx.ownsRow (NB + 1) 29 2 (.slice qa 1 qc) 1 ((([] : List Prp) ++ ([⟨phS, cellsS [q]⟩] : List Prp)).flatMap encPr)) := Lib.hid (by rw [hwx]; exact owns_stc hown (owns_ne_ty hown hbx.ty (by decide)))
            have RT := Lib.hid (RX.out.gr GV.out)
            have x0 := RT.out.cell 0 (by simp)
            have n0 := RV.out.cell 0 (by simp)
            have n1 := RV.out.cell 1 (by simp)
            have n2 := RV.out.cell 2 (by simp)
            simp only [List.getElem_cons_succ, List.getElem_cons_zero] at x0 n0 n1 n2
            have hx0 := has_of_cell x0
            have hx1 := has_of_cell n0
            have OWX := Lib.hid ((Gr.owns OW.out GV.out).alloc (.cells #[.int .i64 0, .string (bs [UInt8.ofNat c]), .slice qa 1 qc] 26))
            have RTX := Lib.hid (RT.out.alloc (.cells #[.int .i64 0, .string (bs [UInt8.ofNat c]), .slice qa 1 qc] 26))
            have hsx : w.heap.size ≤ wx.heap.size := (HG.out.trans GV.out).size
            unfold lc16A
            clear hwx hbx hgr hown hloc
            go_wp2_with (at_builtin; go_must (refine wpList_append_own _ rfl _ _ 30 rfl w.heap.size 26 i1 (.agg #[.int .i64 0, .string ⟨#[]⟩, .slice none 0 0]) 3 48 Try.underlying30 hi1' hz0 hz1 hz2 rfl (by decide) (.slice va ts.length vc) ts.length (ts.flatMap encNd) rfl OWX.out ⟨wx.heap.size, 0, none⟩ 1 1 (encNd (⟨⟨0, [UInt8.ofNat c], (([] : List Prp) ++ ([⟨phS, cellsS [q]⟩] : List Prp))⟩, qa, qc⟩ : NT)) rfl rfl (row_cells (Row.new wx #[.int .i64 0, .string (bs [UInt8.ofNat c]), .slice qa 1 qc] 26)) (encNd_one _) (by unfold maxLen; omega) (by omega) (by simp; omega) ?_; intro v' w7 hown' hgrow hnil; have HO7 := Lib.hid hown'; have HG7 := Lib.hid hgrow; obtain ⟨za, zc, rfl⟩ := owns_slice hown'; have R7 := Lib.hid (RTX.out.kept hgrow (RTX.out.ty.ne OWX.out (by decide))); have x1 := R7.out.cell 0 (by simp); simp only [List.getElem_cons_zero] at x1; have hx2 := has_of_cell x1; have hf7 := R7.out.free 0; clear hown' hgrow hnil))
            have e1 : (ts ++ [(⟨⟨0, [UInt8.ofNat c], (([] : List Prp) ++ ([⟨phS, cellsS [q]⟩] : List Prp))⟩, qa, qc⟩ : NT)]).length = ts.length + 1 := by simp
            have e2 : (ts ++ [(⟨⟨0, [UInt8.ofNat c], (([] : List Prp) ++ ([⟨phS, cellsS [q]⟩] : List Prp))⟩, qa, qc⟩ : NT)]).flatMap encNd = ts.flatMap encNd ++ encNd (⟨⟨0, [UInt8.ofNat c], (([] : List Prp) ++ ([⟨phS, cellsS [q]⟩] : List Prp))⟩, qa, qc⟩ : NT) := by simp
            have CVS : cvT m i j = cvT m0 i j ++ [cvN i j m] := by have := cvT_snoc m0 i j; rw [HM.out] at this; exact this
            have O7 := owns_stc (o := 0) (u := .slice za (ts.length + 1) zc) HO7.out (owns_ne_ty HO7.out R7.out.ty (by decide))
            refine ⟨⟨m, ts ++ [(⟨⟨0, [UInt8.ofNat c], (([] : List Prp) ++ ([⟨phS, cellsS [q]⟩] : List Prp))⟩, qa, qc⟩ : NT)], za, zc, hlt, by go_num, ?_, by rw [e1, e2]; exact O7, ?_, by rw [e1]; exact R7.out.set 0 _, (((HG.out.trans GV.out).alloc _).grown HG7.out (fun j e => (OWX.out.lt j e).1)).setc sx.out⟩, by simp [intOf]; omega⟩
            · rw [List.map_append, TS.out, CVS]
              congr 1
              unfold cvN
              rw [PS.out, ← HCM.out]
              rfl
            · intro t ht
              rcases List.mem_append.1 ht with h | h
              · have a := ((Gr.owns (PW.out t h) GV.out).alloc (.cells #[.int .i64 0, .string (bs [UInt8.ofNat c]), .slice qa 1 qc] 26)).kept HG7.out (owns_ne ((Gr.owns (PW.out t h) GV.out).alloc _) OWX.out (by decide))
                exact owns_stc a (owns_ne_ty a R7.out.ty (by decide))
              · rw [List.mem_singleton.1 h]
                have a := (OV.out.alloc (.cells #[.int .i64 0, .string (bs [UInt8.ofNat c]), .slice qa 1 qc] 26)).kept HG7.out (owns_ne (OV.out.alloc _) OWX.out (by decide))
                exact owns_low (owns_stc a (owns_ne_ty a R7.out.ty (by decide))) (show w.heap.size ≤ NB + 1 by have := HG.out.size; have := hNB.out; omega)
    · obtain rfl : m0 = k := by omega
      obtain ⟨ck, c1, c2⟩ := circles_ok hk2 hk8 hi1 hik hj1 hjk
      have CK := Lib.hid ck
      have SL : Hid (SlOf 3 RNod wr va (cvT m0 i j)) := Lib.hid (by rw [← TS.out]; exact nods_of_owns OW.out PW.out (fun t ht => cvT_small (k := m0) (i := i) (j := j) hk8 (by omega) (by omega) t.n (by rw [← TS.out]; exact List.mem_map_of_mem ht)))
      have x0 := RX.out.cell 0 (by simp)
      simp only [List.getElem_cons_zero] at x0
      rw [TSL.out] at x0
      have hx0 := has_of_cell x0
      obtain ⟨N1, hN1⟩ : ∃ N1, m0 + 1 = N1 := ⟨_, rfl⟩
      rw [hN1] at x0 hlt
      have HN1 := Lib.hid hN1
      have en1 : (m0 : Int) + 1 = (N1 : Int) := by omega
      have e1 : ¬ (N1 : Int) ≤ (m0 : Int) := by omega
      have HCI := circleT_any (cvT m0 i j) va vc sC sK wr SL.out ck
      have HOR := fun W (hg : Gr wr W) => order_any (cvT m0 i j) va vc sC sK W (SL.out.gr RNod.mono hg) ck
      rw [cvT_len, hN1] at HCI
      simp only [cvT_len, hN1] at HOR
      have HCI := Lib.hid HCI
      have HOR := Lib.hid HOR
      clear hN1 ck
      rcases Nat.lt_or_ge j i with c4 | c4
      · obtain ⟨z1, o, z2, z3⟩ := c1 c4
        rw [z1] at HCI
        rw [z2] at HOR
        have eo : ((o.length : Int) == (N1 : Int)) = true := by rw [beq_iff_eq, z3]; omega
        clear c1 c2 z1 z2 z3
        go_wp2_with fail
        refine HCI.out.mono ?_
        rintro e w5 ⟨v, rfl, hv, _, hg5⟩
        obtain ⟨ca, cc, rfl⟩ := owns_slice hv
        have y0 : w5.cell? ⟨XB, 0, none⟩ = some (.slice va N1 vc) := cell_gr hg5 x0
        have hy0' := has_of_cell y0
        have HO2 := Lib.hid (HOR.out w5 hg5)
        have G5 := Lib.hid (HG.out.trans hg5)
        clear hv hg5
        go_wp2_with fail
        refine HO2.out.mono ?_
        rintro e w6 ⟨v, rfl, hv, _, hg6⟩
        obtain ⟨oa, oc, rfl⟩ := owns_slice hv
        have G6 := Lib.hid (G5.out.trans hg6)
        clear hv hg6
        go_wp2_with (first | (go_at_call 5; refine (awake12_any _).mono ?_; rintro e wz ⟨rfl, hgz⟩) | fail)
        go_ret
        exact ⟨rfl, G6.out.trans hgz⟩
      · obtain ⟨z1, z2⟩ := c2 (by omega)
        rw [z1] at HCI
        rw [z2] at HOR
        clear c1 c2 z1 z2
        go_wp2_with fail
        refine HCI.out.mono ?_
        rintro e w5 ⟨v, rfl, hv, hvw, hg5⟩
        obtain ⟨ca, cc, rfl⟩ := owns_slice hv
        have y0 : w5.cell? ⟨XB, 0, none⟩ = some (.slice va N1 vc) := cell_gr hg5 x0
        have hy0' := has_of_cell y0
        have HO2 := Lib.hid (HOR.out w5 hg5)
        have G5 := Lib.hid (HG.out.trans hg5)
        have OC := Lib.hid hv
        have WC := Lib.hid hvw
        clear hv hg5 hvw
        go_wp2_with fail
        refine HO2.out.mono ?_
        rintro e w6 ⟨rfl, hg6⟩
        have G6 := Lib.hid (G5.out.trans hg6)
        have OC6 := Lib.hid (Gr.owns OC.out hg6)
        clear hg6
        go_wp2_with fail
        have G7 : Hid (Gr w6 (w6.alloc (.cells #[.int .i64 i] 3))) := Lib.hid ((Gr.refl _).alloc _)
        have RW := Lib.hid (Row.new w6 #[.int .i64 i] 3)
        obtain ⟨WB, hWB⟩ : ∃ N : Nat, Hid (w6.heap.size = N) := ⟨_, Lib.hid rfl⟩
        rw [hWB.out] at RW ⊢
        obtain ⟨q0, hq0, qz0, qz1, qz2⟩ := info_parts infoInt
        go_loopw [18, 19] (fun sl m wr => ∃ (L : List Int) (m' : Nat), m = .int .i64 m' ∧ i ≤ m' ∧ m' ≤ j ∧ Hid (wantC i j = L ++ downs i m') ∧ L.length ≤ j + 1 - m' ∧ (∀ z ∈ L, Wide z) ∧ wr.ownsRow WB 3 1 sl L.length (nums L) ∧ Gr w6 wr) (fun _ m _ => (intOf m).toNat)
        case atStart => exact ⟨[(i : Int)], j, rfl, c4, Nat.le_refl _, Lib.hid rfl, by simp, fun z hz => by rw [List.mem_singleton.1 hz]; unfold Wide; omega, row_owns (n := 1) RW.out (Nat.le_refl _) rfl (by unfold maxLen; omega), G7.out⟩
        case round =>
          clear G7 RW
          obtain ⟨L, u, rfl, hu1, hu2, HL, hll, hwd, how, hg⟩ := hrel
          obtain ⟨da, dc, rfl⟩ := owns_slice how
          have OL := Lib.hid how
          have WL := Lib.hid hwd
          have HG7 := Lib.hid hg
          have hl8 : L.length ≤ 8 := by omega
          have HLL := Lib.hid hll
          clear how hwd hg hll
          by_cases hiu : i < u
          · obtain ⟨u1, hu⟩ : ∃ u1 : Nat, u1 = u - 1 := ⟨_, rfl⟩
            have eu : (u : Int) - 1 = (u1 : Int) := by omega
            have HU := Lib.hid hu
            have KE : Hid (wantC i j = (L ++ [(u : Int)]) ++ downs i u1) := Lib.hid (by rw [HL.out, downs_step hiu, hu]; simp)
            have hsw : WB ≤ wr.heap.size := by rw [← hWB.out]; exact HG7.out.size
            have OLX := Lib.hid (OL.out.alloc (.cells #[.int .i64 u] 3))
            have NR := Lib.hid (row_cells (Row.new wr #[.int .i64 u] 3))
            clear hu
            go_wp2_with (at_builtin; go_must (refine wpList_append_own _ rfl _ _ 38 rfl WB 3 q0 (.int .i64 0) 1 8 Try.underlying38 hq0 qz0 qz1 qz2 rfl (by decide) (.slice da L.length dc) L.length (nums L) rfl OLX.out ⟨wr.heap.size, 0, none⟩ 1 1 [.int .i64 u] rfl rfl NR.out (by intro x hx; simp at hx; rw [hx]; rfl) (by unfold maxLen; omega) (by omega) (by simp; omega) ?_; intro v' w7 hown' hgrow hnil; obtain ⟨ea, ec, rfl⟩ := owns_slice hown'; have HO7 := Lib.hid hown'; have HG8 := Lib.hid hgrow; clear hown' hgrow hnil))
            have e2 : (L ++ [(u : Int)]).length = L.length + 1 := by simp
            refine ⟨⟨L ++ [(u : Int)], u1, rfl, by have := HU.out; omega, by have := HU.out; omega, KE, by rw [e2]; have := HLL.out; have := HU.out; omega, ?_, ?_, (HG7.out.alloc _).grown HG8.out (fun k e => by rw [hWB.out]; exact (OLX.out.lt k e).1)⟩, by simp [intOf]; have := HU.out; omega⟩
            · intro z hz
              rcases List.mem_append.1 hz with q | q
              · exact WL.out z q
              · rw [List.mem_singleton.1 q]; unfold Wide; omega
            · rw [e2]
              have := HO7.out
              simpa [nums] using this
          · have KE : wantC i j = L := by rw [HL.out, downs_nil (by omega), List.append_nil]
            have OC7 := Gr.owns OC6.out HG7.out
            obtain ⟨_, _, f1, _, sc⟩ := ints_at OC7 WC.out
            cases f1
            obtain ⟨_, _, f2, _, sd⟩ := ints_at OL.out WL.out
            cases f2
            have HI := ints_any (wantC i j) L ca da cc dc wr sc sd (by unfold Fit; rw [KE]; omega) (by unfold Fit; omega)
            rw [decide_eq_true KE] at HI
            have HI := Lib.hid HI
            have KE2 := Lib.hid KE
            have GX := Lib.hid (G6.out.trans HG7.out)
            clear KE sc sd OC7
            go_wp2_with (first | (go_at_call 10; refine HI.out.mono ?_; rintro e w8 ⟨rfl, hg8⟩) | (go_at_call 5; refine (awake12_any _).mono ?_; rintro e wz ⟨rfl, hgz⟩) | fail)
            go_ret
            exact ⟨rfl, GX.out.trans (hg8.trans hgz)⟩
end Go.Proofs.Ytdjhnfopdlgliaa

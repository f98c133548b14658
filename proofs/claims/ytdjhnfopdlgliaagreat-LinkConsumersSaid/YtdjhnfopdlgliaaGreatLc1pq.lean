/- Lemmas and contracts for the proof of LinkConsumers (several texts in one, printed by wip/tools/pack.py): LqF LpA. -/
import Derived.Test.YtdjhnfopdlgliaaGreatLc1pp
import Derived.WalkMore
import Derived.Test.YtdjhnfopdlgliaaGreatLc1pm
import Derived.Test.YtdjhnfopdlgliaaGreatLc1pc
set_option maxRecDepth 100000
set_option maxHeartbeats 16000000
set_option linter.unusedVariables false
set_option linter.unusedSimpArgs false
namespace Go.Proofs.YtdjhnfopdlgliaaGreat
open Go.RowKit
open Classical
theorem rAll_ok (ts : Tr) (a : Option Addr) (cap : Nat) (pn cn : St) (w : World) (h : SlOf 3 RNod w a ts) (hv : VT ts) :
    Calls Tryz.prog 13 #[.agg #[.slice a ts.length cap], .string (bs pn), .string (bs cn)] w (GivesLks w (allT ts pn cn ts.length)) := by
  have H := Lib.hid h
  have HV := Lib.hid hv
  have hc := chk_V hv
  have G := Lib.hid (good_of hc)
  have h120 := (good_of hc).len.2
  obtain ⟨j0, hj, hy0, hy1, hy2⟩ := info_parts infoLnk
  clear h hc hv
  go_enter Tryz.func13, Tryz.ntmps13
  go_wp2_with fail
  have RB := Lib.hid (Row.new w #[.slice a ts.length cap] 31)
  obtain ⟨W1, hW1⟩ : ∃ W : World, Hid (W = w.alloc (.cells #[.slice a ts.length cap] 31)) := ⟨_, Lib.hid rfl⟩
  rw [← hW1.out] at RB ⊢
  have G1 : Hid (Gr w W1) := Lib.hid (by rw [hW1.out]; exact (Gr.refl _).alloc _)
  obtain ⟨P0, hP0⟩ : ∃ N : Nat, Hid (w.heap.size = N) := ⟨_, Lib.hid rfl⟩
  rw [hP0.out] at RB ⊢
  clear hW1 hP0
  refine (rCheck_ok ts a cap W1 (H.out.gr RNod.mono G1.out) HV.out).mono ?_
  rintro e w1 ⟨rfl, hg1⟩
  have G2 := Lib.hid (G1.out.trans hg1)
  have RB2 := Lib.hid (RB.out.gr hg1)
  have b0 : w1.cell? ⟨P0, 0, none⟩ = some (.slice a ts.length cap) := RB2.out.cell 0 (by simp)
  clear hg1 RB G1
  go_wp2_with fail
  go_loopw [9, 21] (fun x i wr => ∃ (k : Nat) (ls : List LT), k ≤ ts.length ∧ i = .int .i64 k ∧ allT ts pn cn k = .ok (lks ls) ∧ ls.length ≤ k * 64 ∧ wr.ownsRow w.heap.size 40 5 x ls.length (encLks ls) ∧ LRows wr w.heap.size ls ∧ Row wr P0 31 [.slice a ts.length cap] ∧ Gr w wr) (fun _ i _ => ts.length - (intOf i).toNat)
  case atStart => exact ⟨0, [], Nat.zero_le _, rfl, rfl, by simp, World.ownsRow_nil _ _ _ _, LRows.nil _ _, RB2.out, G2.out⟩
  case round =>
    clear b0 RB2 G2
    obtain ⟨k, ls, hk, rfl, hal, hln, ho, hlr, hrb, hg⟩ := hrel
    obtain ⟨va, vc, rfl⟩ := owns_slice ho
    have AL := Lib.hid hal
    have OW := Lib.hid ho
    have LR := Lib.hid hlr
    have HRB := Lib.hid hrb
    have HG := Lib.hid hg
    have b0 : wr.cell? ⟨P0, 0, none⟩ = some (.slice a ts.length cap) := hrb.cell 0 (by simp)
    clear hal ho hlr hrb hg
    by_cases hlt : k < ts.length
    · go_wp2_with fail
      refine (rof_ok ts a cap k pn cn wr (H.out.gr RNod.mono HG.out) HV.out hlt).mono ?_
      intro e w2 hgv
      cases hz : ofT ts k pn cn with
      | error er =>
        rw [hz] at hgv
        have A2 : Hid (allT ts pn cn ts.length = .error er) := Lib.hid (allT_err (k := k + 1) (by omega) (by rw [allT, AL.out]; simp only [hz]))
        obtain ⟨rfl, hg⟩ := hgv
        have G3 := Lib.hid (HG.out.trans hg)
        have ern : Hid (er = 25 ∨ er = 26) := Lib.hid (ofT_err hz)
        have eb : (er != 0) = true := by rw [bne_iff_ne]; have := ern.out; omega
        clear hg hz
        go_wp2_with fail
        refine bodyPost_ret (v := .tuple #[.slice none 0 0, .int .i64 er]) (by simp [results, Tryz.results13, go_sem]) rfl ?_
        rw [A2.out]
        exact ⟨rfl, G3.out⟩
      | ok l2 =>
        rw [hz] at hgv
        have A2 : Hid (allT ts pn cn (k + 1) = .ok (lks ls ++ l2)) := Lib.hid (by rw [allT, AL.out]; simp only [hz])
        have L2 := ofT_len G.out hlt hz
        obtain ⟨v, ls2, rfl, h1, h2, h3, hg⟩ := hgv
        obtain ⟨va2, vc2, rfl⟩ := owns_slice h2
        have hl2 : ls2.length ≤ 64 := by rw [← h1] at L2; simpa [lks] using L2
        have G3 := Lib.hid (HG.out.trans hg)
        have OW3 := Lib.hid (Gr.owns OW.out hg)
        have LR3 := Lib.hid (LR.out.gr hg)
        have HRB3 := Lib.hid (HRB.out.gr hg)
        have H1 := Lib.hid h1
        have GT : Hid (Gets w2 va2 ls2.length 5 (encLks ls2)) := Lib.hid (gets_owns h2)
        have LR2 : Hid (LRows w2 w.heap.size ls2) := Lib.hid fun t ht => ⟨owns_low (h3 t ht).1 HG.out.size, (h3 t ht).2⟩
        clear hg hz h1 h2 h3 L2 b0
        have ON : Hid (∀ u ∈ encLks ls2, u.oneCell' = true) := Lib.hid (fun u hu => by obtain ⟨t, _, h⟩ := List.mem_flatMap.1 hu; exact encLk_one t u h)
        go_wp2_with (at_builtin; refine wpList_append_gets _ rfl _ _ 35 rfl w.heap.size 40 j0 (.agg #[.int .i64 0, .int .i64 0, .string (bs []), .int .i64 0, .slice none 0 0]) 5 64 Tryz.underlying35 hj hy0 hy1 hy2 rfl (by decide) (.slice va ls.length vc) ls.length (encLks ls) rfl OW3.out va2 ls2.length vc2 (encLks ls2) rfl GT.out ON.out (by unfold maxLen; omega) (by omega) G3.out.size ?_; intro v' wz hown' hgrow hnil; have HOz := Lib.hid hown'; have HGz := Lib.hid hgrow; clear hown' hgrow hnil)
        go_roundw
        case rel =>
          refine ⟨k + 1, ls ++ ls2, by omega, by go_num, by rw [A2.out, ← H1.out]; simp [lks], by rw [List.length_append]; omega, ?_, ?_, ?_, ?_⟩
          · have := HOz.out
            rw [List.length_append]
            unfold encLks at this ⊢
            rw [List.flatMap_append]
            exact this
          · exact (LR3.out.kept OW3.out (by decide) HGz.out).append (LR2.out.kept OW3.out (by decide) HGz.out)
          · exact HRB3.out.kept HGz.out (HRB3.out.ty.ne OW3.out (by decide))
          · exact G3.out.grown HGz.out (fun j e => (OW3.out.lt j e).1)
        case measure => simp [intOf]; omega
    · obtain rfl : k = ts.length := by omega
      go_wp2_with fail
      refine bodyPost_ret (v := .tuple #[.slice va ls.length vc, .int .i64 0]) (by simp [results, Tryz.results13, go_sem]) rfl ?_
      rw [AL.out]
      exact ⟨_, ls, rfl, rfl, OW.out, LR.out, HG.out⟩
theorem lim_big {ts : Tr} (hb : ts.any bigN = true) : limB ts = true := by unfold limB; rw [hb]; simp
theorem rCheck_big (ts : Tr) (a : Option Addr) (cap : Nat) (w : World) (h : SlOf 3 RNod w a ts) (hv : VL ts) (hb : ts.any bigN = true) :
    Calls Tryz.prog 49 #[.agg #[.slice a ts.length cap]] w (Grows w (.int .i64 3)) := by
  have H := Lib.hid h
  have HB := Lib.hid hb
  have h120 := hv.few
  clear h hv hb
  go_enter Tryz.func49, Tryz.ntmps49
  go_wp2_with fail
  refine (limits_any ts a cap _ (H.out.gr RNod.mono ((Gr.refl _).alloc _)) (by omega)).mono ?_
  rintro e w1 ⟨rfl, hg1⟩
  rw [lim_big HB.out]
  have G2 : Hid (Gr w w1) := Lib.hid (((Gr.refl _).alloc _).trans hg1)
  clear hg1
  go_wp2_with fail
  go_ret
  exact ⟨rfl, G2.out⟩
theorem treeCheck_big (ts : Tr) (a : Option Addr) (cap : Nat) (w : World) (h : SlOf 3 RNod w a ts) (hv : VL ts) (hb : ts.any bigN = true) :
    Calls Tryz.prog 51 #[.agg #[.slice a ts.length cap]] w (Grows w (.int .i64 3)) := by
  have e : chkT ts = 3 := by
    have h1 := hv.pos
    have h2 := hv.few
    unfold chkT
    rw [if_neg (by omega), if_pos hb]
  have q := treeCheck_any ts a cap w h (by have := hv.few; unfold Fit; omega)
  rw [e] at q
  exact q
theorem rAll_big (ts : Tr) (a : Option Addr) (cap : Nat) (pn cn : St) (c : Int) (w : World) (h : SlOf 3 RNod w a ts) (hv : VL ts) (hb : ts.any bigN = true) :
    Calls Tryz.prog 13 #[.agg #[.slice a ts.length cap], .string (bs pn), .string (bs cn)] w fun e w' => e = .returned (.tuple #[.slice none 0 0, .int .i64 3]) ∧ Gr w w' := by
  have H := Lib.hid h
  have HV := Lib.hid hv
  have HB := Lib.hid hb
  have h120 := hv.few
  clear h hv hb
  obtain ⟨P0, hP0⟩ : ∃ P : Ending → World → Prop, P = fun e w' => e = .returned (.tuple #[.slice none 0 0, .int .i64 3]) ∧ Gr w w' := ⟨_, rfl⟩
  rw [← hP0]
  have HP0 := Lib.hid hP0
  clear hP0
  go_enter Tryz.func13, Tryz.ntmps13
  go_wp2_with fail
  (try go_step3)
  (try go_wp2_with fail)
  have RB := Lib.hid (Row.new w #[.slice a ts.length cap] 31)
  refine (rCheck_big ts a cap _ (H.out.gr RNod.mono ((Gr.refl _).alloc _)) HV.out HB.out).mono ?_
  rintro e w1 ⟨rfl, hg1⟩
  have G2 : Hid (Gr w w1) := Lib.hid (((Gr.refl _).alloc _).trans hg1)
  clear hg1 RB
  go_wp2_with fail
  rw [HP0.out]
  exact ⟨rfl, G2.out⟩
theorem all_big (ts : Tr) (a : Option Addr) (cap : Nat) (pn cn : St) (c : Int) (w : World) (h : SlOf 3 RNod w a ts) (hv : VL ts) (hb : ts.any bigN = true) :
    Calls Tryz.prog 14 #[.agg #[.slice a ts.length cap], .string (bs pn), .string (bs cn)] w fun e w' => e = .returned (.tuple #[.slice none 0 0, .int .i64 3]) ∧ Gr w w' := by
  have H := Lib.hid h
  have HV := Lib.hid hv
  have HB := Lib.hid hb
  have h120 := hv.few
  clear h hv hb
  obtain ⟨P0, hP0⟩ : ∃ P : Ending → World → Prop, P = fun e w' => e = .returned (.tuple #[.slice none 0 0, .int .i64 3]) ∧ Gr w w' := ⟨_, rfl⟩
  rw [← hP0]
  have HP0 := Lib.hid hP0
  clear hP0
  go_enter Tryz.func14, Tryz.ntmps14
  go_wp2_with fail
  (try go_step3)
  (try go_wp2_with fail)
  have RB := Lib.hid (Row.new w #[.slice a ts.length cap] 31)
  refine (treeCheck_big ts a cap _ (H.out.gr RNod.mono ((Gr.refl _).alloc _)) HV.out HB.out).mono ?_
  rintro e w1 ⟨rfl, hg1⟩
  have G2 : Hid (Gr w w1) := Lib.hid (((Gr.refl _).alloc _).trans hg1)
  clear hg1 RB
  go_wp2_with fail
  rw [HP0.out]
  exact ⟨rfl, G2.out⟩
theorem sl_one {w : World} {B n : Nat} (h : Row w B 3 (nums [(n : Int)])) (hn : n ≤ 1000000) : SlOf 1 RI w (some ⟨B, 0, none⟩) ([n].map (fun n : Nat => (n : Int))) :=
  h.s.slI (fun k hk => by
    have e : k = 0 := by simp at hk; omega
    subst e
    simp only [List.map_cons, List.map_nil, List.getElem_cons_zero]
    unfold Wide
    omega)
theorem put_any (ps : List Prp) (pa : Option Addr) (pc : Nat) (nm val : St) (w : World) (h : SlOf 2 RPrp w pa ps) (hl : ps.length ≤ 1000) (hs : ∀ q ∈ ps, q.name.length ≤ 1000 ∧ q.val.length ≤ 100000) (hp : nm.length ≤ 1000) (hc : ps.length ≤ pc) :
    Calls Tryz.prog 46 #[.slice pa ps.length pc, .string (bs nm), .string (bs val)] w fun e w' => ∃ a c, e = .returned (.slice a (putP ps ⟨nm, val⟩).length c) ∧ w'.ownsRow w.heap.size 89 2 (.slice a (putP ps ⟨nm, val⟩).length c) (putP ps ⟨nm, val⟩).length ((putP ps ⟨nm, val⟩).flatMap encP) ∧ Gr w w' := by
  have C := Lib.hid (rPut_ok ps ⟨nm, val⟩ pa pc w h hl hs hp hc)
  obtain ⟨P0, hP0⟩ : ∃ P : Ending → World → Prop, P = fun e w' => ∃ a c, e = .returned (.slice a (putP ps ⟨nm, val⟩).length c) ∧ w'.ownsRow w.heap.size 89 2 (.slice a (putP ps ⟨nm, val⟩).length c) (putP ps ⟨nm, val⟩).length ((putP ps ⟨nm, val⟩).flatMap encP) ∧ Gr w w' := ⟨_, rfl⟩
  rw [← hP0]
  have HP0 := Lib.hid hP0
  clear hP0 h hs
  go_enter Tryz.func46, Tryz.ntmps46
  go_wp2_with fail
  refine C.out.mono ?_
  rintro e w1 ⟨a, c, rfl, ho, hg⟩
  have HO := Lib.hid ho
  have HG := Lib.hid hg
  clear ho hg C
  go_wp2_with fail
  rw [HP0.out]
  exact ⟨a, c, rfl, HO.out, HG.out⟩
def FinC (wr : World) (b len g k : Nat) (ps : List Prp) (w : World) : Prop :=
  ∃ (w1 : World) (m : Nat) (x : Option Addr) (c : Nat), w = w1.setCell ⟨g, k * 3 + 2, none⟩ (.slice x (putP ps ⟨[35, 99, 101, 108, 108, 115], cellsS [m]⟩).length c) ∧ m ≤ 9 ∧ Mv b len wr w1 ∧ w1.ownsRow wr.heap.size 89 2 (.slice x (putP ps ⟨[35, 99, 101, 108, 108, 115], cellsS [m]⟩).length c) (putP ps ⟨[35, 99, 101, 108, 108, 115], cellsS [m]⟩).length ((putP ps ⟨[35, 99, 101, 108, 108, 115], cellsS [m]⟩).flatMap encP)
end Go.Proofs.YtdjhnfopdlgliaaGreat

/- Lemmas and contracts for the proof of LinkOrders (several texts in one, printed by wip/tools/pack.py): LqD LqE TfB TfC TfD. -/
import Derived.Test.YtdjhnfopdlgliaaGreatLo1pm
import Derived.Test.YtdjhnfopdlgliaaGreatLo1pp
import Derived.Test.YtdjhnfopdlgliaaGreatLo1pn
import Derived.Test.YtdjhnfopdlgliaaGreatLo1pc
import Derived.WalkMore
import Derived.Test.YtdjhnfopdlgliaaGreatLo1pb
set_option maxRecDepth 100000
set_option maxHeartbeats 16000000
set_option linter.unusedVariables false
set_option linter.unusedSimpArgs false
namespace Go.Proofs.YtdjhnfopdlgliaaGreat
open Go.RowKit
open Classical
theorem rArgs_any (ts : Tr) (i : Nat) (pa : Option Addr) (pc : Nat) (cn : St) (w : World) (hi : i < ts.length) (hv : VT ts) (hs : SlOf 2 RPrp w pa ts[i].props) :
    Calls Tryz.prog 99 #[.agg #[.int .i64 ts[i].parent, .string (bs ts[i].name), .slice pa ts[i].props.length pc], .string (bs cn)] w (Grows w (.int .i64 ((argsN ts i cn).getD (-1)))) := by
  have NE : Hid (ts.getD i default = ts[i]) := Lib.hid (by rw [List.getD_eq_getElem?_getD, List.getElem?_eq_getElem hi]; rfl)
  have LV : Hid (∀ v, valP ts[i].props cn = some v → v.length ≤ 256) := Lib.hid fun v hz => by
    unfold valP at hz
    cases e : ts[i].props.find? (fun p => p.name == cn) with
    | none => rw [e] at hz; cases hz
    | some p => rw [e] at hz; cases hz; exact hv.vals _ (List.getElem_mem hi) p (List.mem_of_find?_eq_some e)
  have N12 : Hid (ts[i].props.length ≤ 12) := Lib.hid (hv.fits _ (List.getElem_mem hi))
  have AN : Hid (argsN ts i cn = match valP ts[i].props cn with | none => some 0 | some v => if cellsOk v = true ∧ (cellsL v).length = 1 ∧ (cellsL v).getD 0 0 ≤ 8 then some ((cellsL v).getD 0 0) else none) := Lib.hid (by unfold argsN; rw [NE.out]; rfl)
  obtain ⟨r, hr⟩ : ∃ r, argsN ts i cn = r := ⟨_, rfl⟩
  rw [hr] at AN ⊢
  obtain ⟨n, hn⟩ : ∃ n, ts[i] = n := ⟨_, rfl⟩
  rw [hn] at hs LV N12 AN ⊢
  have HS := Lib.hid hs
  clear hs hr hn NE
  obtain ⟨P0, hP0⟩ : ∃ P : Ending → World → Prop, P = Grows w (.int .i64 (r.getD (-1))) := ⟨_, rfl⟩
  rw [← hP0]
  have HP0 := Lib.hid hP0
  clear hP0
  go_enter Tryz.func99, Tryz.ntmps99
  go_wp2_with fail
  refine (rOf_any n pa pc cn _ (HS.out.gr RPrp.mono ((Gr.refl _).alloc _)) (by have := N12.out; omega)).mono ?_
  intro e w1 hgv
  cases hz : valP n.props cn with
  | none =>
    rw [hz] at hgv AN
    obtain ⟨hg, rfl⟩ := hgv
    have G1 : Hid (Gr w w1) := Lib.hid (((Gr.refl _).alloc _).trans hg)
    clear hg hz
    go_wp2_with fail
    rw [HP0.out, AN.out]
    exact ⟨rfl, G1.out⟩
  | some v =>
    rw [hz] at hgv AN
    have lv := LV.out v hz
    obtain ⟨hg, rfl⟩ := hgv
    have G1 : Hid (Gr w w1) := Lib.hid (((Gr.refl _).alloc _).trans hg)
    clear hg hz
    go_wp2_with fail
    refine (rCells_any v w1 (by omega)).mono ?_
    intro e w2 hgv
    unfold GivesCells at hgv
    by_cases hok : cellsOk v = true
    · rw [if_pos hok] at hgv
      obtain ⟨x, rfl, ho, hg⟩ := hgv
      have OK := Lib.hid hok
      have GG : Hid (Gr w w2) := Lib.hid (G1.out.trans hg)
      obtain ⟨xa, xc, rfl, _, hsl⟩ := ints_at ho (cells_wide v)
      have SL := Lib.hid hsl
      clear hg hok ho hsl
      by_cases hl : (cellsL v).length = 1
      · obtain ⟨z, hz⟩ : ∃ z, cellsL v = [z] := List.length_eq_one_iff.1 hl
        have BZ := cells_bound v z (by rw [hz]; simp)
        rw [hz] at SL AN ⊢
        obtain ⟨b, o, rfl, c0, _⟩ := SL.out.one 0 (by simp)
        simp only [List.getElem_cons_zero, Nat.add_zero] at c0
        have hh := has_of_cell c0
        by_cases h8 : z ≤ 8
        · have R2 : Hid (r = some z) := Lib.hid (by rw [AN.out]; (try dsimp only); rw [if_pos ⟨OK.out, rfl, by simpa using h8⟩]; rfl)
          have kb : decide (8 < z) = false := by simp; omega
          clear h8 hl hz
          go_wp2_with fail
          rw [HP0.out, R2.out]
          exact ⟨rfl, GG.out⟩
        · have R2 : Hid (r = none) := Lib.hid (by rw [AN.out]; (try dsimp only); rw [if_neg (by rintro ⟨_, _, q⟩; exact h8 (by simpa using q))])
          have kb : decide (8 < z) = true := by simp; omega
          clear h8 hl hz
          go_wp2_with fail
          rw [HP0.out, R2.out]
          exact ⟨rfl, GG.out⟩
      · have R2 : Hid (r = none) := Lib.hid (by rw [AN.out]; (try dsimp only); rw [if_neg (by rintro ⟨_, q, _⟩; exact hl q)])
        have kb : ((cellsL v).length == 1) = false := by rw [beq_eq_false_iff_ne]; exact hl
        have kb1 : (((cellsL v).length : Int) == 1) = false := by rw [beq_eq_false_iff_ne]; omega
        have kb2 : (((cellsL v).length : Int) != 1) = true := by rw [bne_iff_ne]; omega
        clear hl
        go_wp2_with fail
        rw [HP0.out, R2.out]
        exact ⟨rfl, GG.out⟩
    · rw [if_neg hok] at hgv
      obtain ⟨rfl, hg⟩ := hgv
      have GG : Hid (Gr w w2) := Lib.hid (G1.out.trans hg)
      have R2 : Hid (r = none) := Lib.hid (by rw [AN.out]; (try dsimp only); rw [if_neg (by rintro ⟨q, _, _⟩; exact hok q)])
      clear hg hok
      go_wp2_with fail
      rw [HP0.out, R2.out]
      exact ⟨rfl, GG.out⟩
theorem ofF_step1 {ts : Tr} {node : Int} {pn cn : St} {f : Nat} {p : Int} {l : List Int} {out : List Lnk} : ofF ts node pn cn (f + 1) (p :: l) out = match phan ts p with | none => .error 25 | some k => match argsN ts k cn with | none => .error 26 | some n => if (l.length : Int) < n then .error 26 else ofF ts node pn cn f (l.drop n.toNat) (out ++ [⟨node, k, pn, out.length, l.take n.toNat⟩]) := rfl
theorem rof_ok (ts : Tr) (a : Option Addr) (cap i : Nat) (pn cn : St) (w : World) (h : SlOf 3 RNod w a ts) (hv : VT ts) (hi : i < ts.length) :
    Calls Tryz.prog 50 #[.agg #[.slice a ts.length cap], .int .i64 i, .string (bs pn), .string (bs cn)] w (GivesLks w (ofT ts i pn cn)) := by
  have H := Lib.hid h
  have HV := Lib.hid hv
  have h120 := hv.few
  have NE : Hid (ts.getD i default = ts[i]) := Lib.hid (by rw [List.getD_eq_getElem?_getD, List.getElem?_eq_getElem hi]; rfl)
  have LV : Hid (∀ v, valP ts[i].props pn = some v → v.length ≤ 256) := Lib.hid fun v hz => by
    unfold valP at hz
    cases e : ts[i].props.find? (fun p => p.name == pn) with
    | none => rw [e] at hz; cases hz
    | some p => rw [e] at hz; cases hz; exact hv.vals _ (List.getElem_mem hi) p (List.mem_of_find?_eq_some e)
  have N12 : Hid (∀ k (hk : k < ts.length), ts[k].props.length ≤ 12) := Lib.hid (fun k hk => hv.fits _ (List.getElem_mem hk))
  have OT : Hid (ofT ts i pn cn = match valP ts[i].props pn with | none => .ok [] | some v => if v = [] then .ok [] else if cellsOk v then ofF ts i pn cn (cellsL v).length (cellsL v) [] else .error 26) := Lib.hid (by unfold ofT; rw [NE.out]; rfl)
  obtain ⟨j0, hj, hy0, hy1, hy2⟩ := info_parts infoLnk
  obtain ⟨i0, hi0, hz0, hz1, hz2⟩ := info_parts infoInt
  obtain ⟨R, hR⟩ : ∃ R, ofT ts i pn cn = R := ⟨_, rfl⟩
  rw [hR] at OT ⊢
  obtain ⟨P0, hP0⟩ : ∃ P : Ending → World → Prop, P = GivesLks w R := ⟨_, rfl⟩
  rw [← hP0]
  have HP0 := Lib.hid hP0
  have EMP : Hid (R = .ok [] → ∀ w', Gr w w' → P0 (.returned (.tuple #[.slice none 0 0, .int .i64 0])) w') := Lib.hid fun q w' hg => by
    rw [hP0, q]; exact ⟨_, [], rfl, rfl, World.ownsRow_nil _ _ _ _, LRows.nil _ _, hg⟩
  have ERR : Hid (∀ k, R = .error k → ∀ w', Gr w w' → P0 (.returned (.tuple #[.slice none 0 0, .int .i64 k])) w') := Lib.hid fun k q w' hg => by
    rw [hP0, q]; exact ⟨rfl, hg⟩
  clear hP0 h hv hR NE
  go_enter Tryz.func50, Tryz.ntmps50
  go_upto_region 1 with (fail)
  have RB := Lib.hid (Row.new w #[.slice a ts.length cap] 31)
  obtain ⟨W1, hW1⟩ : ∃ W : World, Hid (W = w.alloc (.cells #[.slice a ts.length cap] 31)) := ⟨_, Lib.hid rfl⟩
  have G1 : Hid (Gr w W1) := Lib.hid (by rw [hW1.out]; exact (Gr.refl _).alloc _)
  rw [← hW1.out] at RB ⊢
  obtain ⟨PB, hPB⟩ : ∃ N : Nat, Hid (w.heap.size = N) := ⟨_, Lib.hid rfl⟩
  rw [hPB.out] at RB ⊢
  clear hW1
  obtain ⟨b, o, pa, pc, ea, c0, c1, c2, hps, hpf, hw, hnl⟩ := nods_at (H.out.gr RNod.mono G1.out) i hi
  subst ea
  have NI := Lib.hid (N12.out i hi)
  obtain ⟨ni, hni⟩ : ∃ t, ts[i] = t := ⟨_, rfl⟩
  rw [hni] at c0 c1 c2 hps LV NI OT
  have HPS := Lib.hid hps
  have hh := has_of_cell c0
  have x0 := RB.out.cell 0 (by simp)
  simp only [List.getElem_cons_zero] at x0
  have hx := has_of_cell x0
  have kn : (i : Int) < (ts.length : Int) := by omega
  clear hni hps hpf hw hnl
  go_wp2_with fail
  refine (rOf_any ni pa pc pn W1 HPS.out (by have := NI.out; omega)).mono ?_
  intro e w2 hgv
  clear c0 c1 c2 hh x0 hx
  cases hz : valP ni.props pn with
  | none =>
    rw [hz] at hgv OT
    obtain ⟨hg, rfl⟩ := hgv
    have G2 := Lib.hid (G1.out.trans hg)
    clear hg hz
    go_wp2_with fail
    refine (rCells_any [] w2 (by simp)).mono ?_
    intro e w3 hgv
    unfold GivesCells at hgv
    rw [if_neg (by decide)] at hgv
    obtain ⟨rfl, hg⟩ := hgv
    have G3 := Lib.hid (G2.out.trans hg)
    clear hg
    go_wp2_with fail
    go_loopw [14, 15] (fun x s wr => x = .slice none 0 0 ∧ s = .int .i64 0 ∧ Gr w wr) (fun _ _ _ => 0)
    case atStart => exact ⟨rfl, rfl, G3.out⟩
    case round =>
      obtain ⟨rfl, rfl, hg⟩ := hrel
      have HG := Lib.hid hg
      clear hg
      go_wp2_with fail
      exact EMP.out OT.out _ HG.out
  | some v =>
    rw [hz] at hgv OT
    have lv := LV.out v hz
    obtain ⟨hg, rfl⟩ := hgv
    have G2 := Lib.hid (G1.out.trans hg)
    have RB2 := Lib.hid (RB.out.gr hg)
    clear hg hz
    go_wp2_with fail
    refine (rCells_any v w2 (by omega)).mono ?_
    intro e w3 hgv
    unfold GivesCells at hgv
    by_cases hv0 : v = []
    · subst hv0
      rw [if_neg (by decide)] at hgv
      have OT := Lib.hid (show R = .ok [] from OT.out)
      obtain ⟨rfl, hg⟩ := hgv
      have G3 := Lib.hid (G2.out.trans hg)
      clear hg
      go_wp2_with fail
      go_loopw [14, 15] (fun x s wr => x = .slice none 0 0 ∧ s = .int .i64 0 ∧ Gr w wr) (fun _ _ _ => 0)
      case atStart => exact ⟨rfl, rfl, G3.out⟩
      case round =>
        obtain ⟨rfl, rfl, hg⟩ := hrel
        have HG := Lib.hid hg
        clear hg
        go_wp2_with fail
        exact EMP.out OT.out _ HG.out
    · have hb1 : (v == []) = false := by rw [beq_eq_false_iff_ne]; exact hv0
      have hb2 : (v != []) = true := by simp [bne, hb1]
      have OT2 : Hid (R = if cellsOk v then ofF ts i pn cn (cellsL v).length (cellsL v) [] else .error 26) := Lib.hid (by rw [OT.out]; (try dsimp only); rw [if_neg hv0])
      clear OT
      by_cases hok : cellsOk v = true
      · rw [if_pos hok] at hgv OT2
        obtain ⟨x, rfl, ho, hg⟩ := hgv
        have G3 := Lib.hid (G2.out.trans hg)
        have RB3 := Lib.hid (RB2.out.gr hg)
        obtain ⟨xa, xc, rfl, hxc, hsl⟩ := ints_at ho (cells_wide v)
        have hpos : 0 < (cellsL v).length := by
          rw [cellsL_length]; simp [cellsOk] at hok; have : 0 < v.length := List.length_pos_iff.2 hok.1; omega
        obtain ⟨g, o2, rfl, hzz⟩ := hsl 0 hpos
        have SL := Lib.hid hsl
        have TY : Hid (Ty w3 g 3) := Lib.hid (owns_ty ho rfl)
        have WD := Lib.hid (cells_wide v)
        have LC : Hid ((cellsL v).length ≤ 64) := Lib.hid (by rw [cellsL_length]; omega)
        obtain ⟨l, hl⟩ : ∃ l, cellsL v = l := ⟨_, rfl⟩
        rw [hl] at SL OT2 WD LC hxc ⊢
        have hposA : Hid (0 < l.length) := Lib.hid (by rw [← hl]; exact hpos)
        clear hok ho hg hsl hzz hpos hl RB2
        obtain ⟨L, hL⟩ : ∃ N : Nat, Hid (l.length = N) := ⟨_, Lib.hid rfl⟩
        rw [hL.out] at LC hxc ⊢
        have l64 := LC.out
        have hpos0 : Hid (0 < L) := Lib.hid (by rw [← hL.out]; exact hposA.out)
        go_wp2_with fail
        have hpos : 0 < L := by
          have := hpos0.out
          omega
        clear hv0 hb1 hb2
        go_loopw [14, 15] (fun x s wr => ∃ (k f : Nat) (ls : List LT), k ≤ L ∧ s = .int .i64 (k : Int) ∧ R = ofF ts i pn cn f (l.drop k) (lks ls) ∧ L ≤ f + k ∧ ls.length ≤ k ∧ wr.ownsRow w.heap.size 40 5 x ls.length (encLks ls) ∧ LRows wr w.heap.size ls ∧ SlOf 1 RI wr (some ⟨g, o2, none⟩) l ∧ Ty wr g 3 ∧ Row wr PB 31 [.slice (some ⟨b, o, none⟩) ts.length cap] ∧ Gr w wr) (fun _ s _ => L - (intOf s).toNat)
        case atStart => exact ⟨0, L, [], Nat.zero_le _, rfl, by rw [OT2.out, hL.out]; rfl, by omega, by simp, World.ownsRow_nil _ _ _ _, LRows.nil _ _, SL.out, TY.out, RB3.out, G3.out⟩
        case round =>
          clear SL TY RB3 G3 OT2 G2 RB
          obtain ⟨k, f, ls, hk, rfl, hof, hfk, hlk, ho, hlr, hsl, hty, hrb, hg⟩ := hrel
          obtain ⟨va, vc, rfl⟩ := owns_slice ho
          have OF := Lib.hid hof
          have OW := Lib.hid ho
          have LR := Lib.hid hlr
          have SL := Lib.hid hsl
          have TY := Lib.hid hty
          have HRB := Lib.hid hrb
          have HG := Lib.hid hg
          have b0 := hrb.cell 0 (by simp)
          simp only [List.getElem_cons_zero] at b0
          have hh := has_of_cell b0
          have LS : ls.length ≤ 64 := by omega
          clear hof ho hlr hsl hty hrb hg
          by_cases hlt : k < L
          · have hkl : k < l.length := by rw [hL.out]; exact hlt
            obtain ⟨f, rfl⟩ : ∃ q, f = q + 1 := ⟨f - 1, by omega⟩
            obtain ⟨g', o', e', d0⟩ := SL.out.one k hkl
            cases e'
            have d1 := d0.1
            have hh2 := has_of_cell d1
            have DR : Hid (l.drop k = l[k] :: l.drop (k + 1)) := Lib.hid (List.drop_eq_getElem_cons hkl)
            obtain ⟨p, hp⟩ : ∃ p, l[k] = p := ⟨_, rfl⟩
            rw [hp] at d1 DR
            rw [DR.out] at OF
            have OF2 : Hid (R = match phan ts p with | none => .error 25 | some kk => match argsN ts kk cn with | none => .error 26 | some n => if ((l.drop (k + 1)).length : Int) < n then .error 26 else ofF ts i pn cn f ((l.drop (k + 1)).drop n.toNat) (lks ls ++ [⟨i, kk, pn, (lks ls).length, (l.drop (k + 1)).take n.toNat⟩])) := Lib.hid (by rw [OF.out, ofF_step1])
            have kL : (k : Int) < (L : Int) := by omega
            have HLT := Lib.hid hlt
            have HFK := Lib.hid (And.intro hfk hlk)
            clear d0 hp hlt OF DR hfk hlk hpos
            go_wp2_with fail
            refine wp_region_grows (by kernel_rfl) (by kernel_rfl) ?_
            repeat (go_big_quiet_step (first | (go_at_call 98; exact calls_grows (rPhandle_ok ts (some ⟨b, o, none⟩) cap p _ (H.out.gr RNod.mono (by repeat (first | with_reducible exact Gr.refl _ | with_reducible exact HG.out | with_reducible refine Gr.xt _ _ ?_ | with_reducible refine Gr.alloc _ ?_))) HV.out))))
            refine wpQuiet_nil ?_
            rintro _ ⟨⟨O, d9⟩, rfl⟩
            have G5 : Hid (Gr wr (xt wr O d9)) := Lib.hid ((Gr.refl _).xt _ _)
            obtain ⟨W5, hW5⟩ : ∃ W : World, Hid (W = xt wr O d9) := ⟨_, Lib.hid rfl⟩
            have hW5' := hW5.out
            rw [← hW5'] at G5 ⊢
            have HG5 := Lib.hid (HG.out.trans G5.out)
            have SL5 := Lib.hid (SL.out.giI G5.out)
            have OW5 := Lib.hid (Gr.owns OW.out G5.out)
            have LR5 := Lib.hid (LR.out.gr G5.out)
            have TY5 := Lib.hid (TY.out.gr G5.out)
            have HRB5 := Lib.hid (HRB.out.gr G5.out)
            clear b0 hh d1 hh2 hW5' hW5 SL OW LR TY HRB HG G5
            cases hph : phan ts p with
            | none =>
              rw [hph] at OF2
              clear hph
              go_wp2_with fail
              exact ERR.out 25 OF2.out _ HG5.out
            | some kk =>
              have hkk := phan_lt hph
              rw [hph] at OF2
              have b5 := HRB5.out.cell 0 (by simp)
              simp only [List.getElem_cons_zero] at b5
              have hh5 := has_of_cell b5
              obtain ⟨bb, oo, pa2, pc2, ea, c0, c1, c2, hps, hpf, hw, hnl⟩ := nods_at (H.out.gr RNod.mono HG5.out) kk hkk
              cases ea
              have RA := Lib.hid (rArgs_any ts kk pa2 pc2 cn W5 hkk HV.out hps)
              obtain ⟨nk, hnk⟩ : ∃ t, ts[kk] = t := ⟨_, rfl⟩
              rw [hnk] at c0 c1 c2 RA
              have hc0 := has_of_cell c0
              have kn2 : (kk : Int) < (ts.length : Int) := by omega
              clear hph hnk hps hpf hw hnl
              go_wp2_with fail
              refine RA.out.mono ?_
              rintro e w6 ⟨rfl, hg6⟩
              have HG6 := Lib.hid (HG5.out.trans hg6)
              have SL6 := Lib.hid (SL5.out.giI hg6)
              have OW6 := Lib.hid (Gr.owns OW5.out hg6)
              have LR6 := Lib.hid (LR5.out.gr hg6)
              have TY6 := Lib.hid (TY5.out.gr hg6)
              have HRB6 := Lib.hid (HRB5.out.gr hg6)
              clear hg6 b5 hh5 c0 c1 c2 hc0 HG5 SL5 OW5 LR5 TY5 HRB5 RA
              cases han : argsN ts kk cn with
              | none =>
                rw [han] at OF2
                clear han
                go_wp2_with fail
                exact ERR.out 26 OF2.out _ HG6.out
              | some n =>
                obtain ⟨n0, n8⟩ := argsN_le han
                rw [han] at OF2
                clear han
                obtain ⟨q, rfl⟩ : ∃ q : Nat, n = q := ⟨n.toNat, by omega⟩
                have RL : Hid ((l.drop (k + 1)).length = L - k - 1) := Lib.hid (by rw [List.length_drop, hL.out]; omega)
                have OF2 : Hid (R = if ((L - k - 1 : Nat) : Int) < (q : Int) then .error 26 else ofF ts i pn cn f ((l.drop (k + 1)).drop q) (lks ls ++ [⟨i, kk, pn, (lks ls).length, (l.drop (k + 1)).take q⟩])) := Lib.hid (by rw [OF2.out]; dsimp only; rw [RL.out, Int.toNat_natCast])
                have q8 : q ≤ 8 := by omega
                have kb0 : decide ((q : Int) < 0) = false := by rw [decide_eq_false_iff_not]; omega
                by_cases hlq : L - k - 1 < q
                · have OF3 : Hid (R = .error 26) := Lib.hid (by rw [OF2.out, if_pos (by omega)])
                  have kq : decide ((L : Int) - (k : Int) - 1 < (q : Int)) = true := by simp; omega
                  have kq2 : (L : Int) - (k : Int) - 1 < (q : Int) := by omega
                  clear hlq n0 n8
                  go_wp2_with fail
                  exact ERR.out 26 OF3.out _ HG6.out
                · have kq : decide ((L : Int) - (k : Int) - 1 < (q : Int)) = false := by rw [decide_eq_false_iff_not]; omega
                  have HLQ : Hid (k + 1 + q ≤ L) := Lib.hid (by omega)
                  have OF3 : Hid (R = ofF ts i pn cn f ((l.drop (k + 1)).drop q) (lks ls ++ [⟨i, kk, pn, (lks ls).length, (l.drop (k + 1)).take q⟩])) := Lib.hid (by rw [OF2.out, if_neg (by omega)])
                  have k1 : (k : Int) + 1 + q ≤ L := by omega
                  have kq0 : (k : Int) + 1 ≤ (k : Int) + 1 + q := by omega
                  have k2 : (k : Int) + 1 + q ≤ (xc : Int) := by omega
                  have k3 : (0 : Int) ≤ (k : Int) + 1 + q := by omega
                  have XC : Hid (L ≤ xc) := Lib.hid hxc
                  clear hlq OF2 n0 n8
                  obtain ⟨o4, ho4⟩ : ∃ o4, Hid (o4 = if xc = k + 1 then o2 else o2 + (k + 1)) := ⟨_, Lib.hid rfl⟩
                  have P1 : (if xc = k + 1 then (some ⟨g, o2, none⟩ : Option Addr) else some ⟨g, o2 + (k + 1), none⟩) = some ⟨g, o4, none⟩ := by rw [ho4.out]; split <;> rfl
                  obtain ⟨ar, har⟩ : ∃ ar, (l.drop (k + 1)).take q = ar := ⟨_, rfl⟩
                  have AL : Hid (ar.length = q) := Lib.hid (by rw [← har, List.length_take, RL.out]; have := HLQ.out; omega)
                  have AW : Hid (∀ z ∈ ar, Wide z) := Lib.hid (fun z hz => WD.out z (List.mem_of_mem_drop (List.mem_of_mem_take (har ▸ hz))))
                  have SRC : Hid (Gets (w6.alloc (.cells #[] 3)) (some ⟨g, o4, none⟩) q 1 (nums ar)) := Lib.hid (by
                    refine ⟨by simp [nums, AL.out], fun hq => ⟨_, rfl, fun j u hu => ?_⟩⟩
                    obtain ⟨hj, e⟩ := List.getElem?_eq_some_iff.1 hu
                    have hj2 : j < q := by have h := hj; simp only [nums, List.length_map] at h; rw [AL.out] at h; exact h
                    have hjl : k + 1 + j < l.length := by rw [hL.out]; have := HLQ.out; omega
                    obtain ⟨g2, o9, e2, h2⟩ := SL6.out.one (k + 1 + j) hjl
                    cases e2
                    rw [Addr.add_lit, ho4.out, if_neg (by have := HLQ.out; have := XC.out; omega), show o2 + (k + 1) + j = o2 + (k + 1 + j) by omega, cell_gr ((Gr.refl w6).alloc _) h2.1, ← e]
                    simp only [nums, List.getElem_map, ← har, List.getElem_take, List.getElem_drop])
                  rw [har] at OF3
                  clear har hxc
                  go_wp2_with (first | (at_builtin; refine wpList_append_gets _ rfl _ _ 38 rfl w6.heap.size 3 i0 (.int .i64 0) 1 8 Tryz.underlying38 hi0 hz0 hz1 hz2 rfl (by decide) (.slice (some ⟨w6.heap.size, 0, none⟩) 0 0) 0 [] rfl (World.ownsRow_made w6 #[] 0 (Nat.le_refl _) (by simp) rfl) (some ⟨g, o4, none⟩) (k + 1 + q - (k + 1)) (xc - (k + 1)) (nums ar) rfl (by rw [show k + 1 + q - (k + 1) = q by omega]; exact SRC.out) (nums_one _) (by unfold maxLen; omega) (by omega) (by simp) ?_; intro v7 w7 hown hgrow hloc; obtain ⟨x7, z7, rfl⟩ := owns_slice hown; rw [show 0 + (k + 1 + q - (k + 1)) = q by omega] at hown; rw [show 0 + (k + 1 + q - (k + 1)) = q by omega]; rw [List.nil_append] at hown; have O7 := Lib.hid hown; have G7 : Hid (Gr w6 w7) := Lib.hid (((Gr.refl w6).alloc _).grown hgrow (fun k e => by cases e; exact Nat.le_refl _)); clear hown hgrow hloc; have HG7 := Lib.hid (HG6.out.trans G7.out); have OW7 := Lib.hid (Gr.owns OW6.out G7.out); have LK7 : Hid (w7.ownsRow w6.heap.size 3 1 (.slice x7 ar.length z7) ar.length (nums ar)) := Lib.hid (by rw [AL.out]; exact O7.out); have LR7 := Lib.hid ((LR6.out.gr G7.out).snoc (t := ⟨⟨i, kk, pn, (lks ls).length, ar⟩, x7, z7⟩) ⟨owns_low LK7.out HG6.out.size, AW.out, by rw [AL.out]; omega⟩); have TY7 := Lib.hid (TY6.out.gr G7.out); have HRB7 := Lib.hid (HRB6.out.gr G7.out); have SL7 := Lib.hid (SL6.out.giI G7.out); have EK : Hid (encLk ⟨⟨i, kk, pn, (lks ls).length, ar⟩, x7, z7⟩ = [.int .i64 i, .int .i64 kk, .string (bs pn), .int .i64 ls.length, .slice x7 q z7]) := Lib.hid (by simp only [encLk, AL.out, lks, List.length_map]); have NR := Lib.hid (row_cells (Row.new w7 #[.int .i64 i, .int .i64 kk, .string (bs pn), .int .i64 ls.length, .slice x7 q z7] 40))) | (at_builtin; refine wpList_append_own _ rfl _ _ 35 rfl w.heap.size 40 j0 (.agg #[.int .i64 0, .int .i64 0, .string (bs []), .int .i64 0, .slice none 0 0]) 5 64 Tryz.underlying35 hj hy0 hy1 hy2 rfl (by decide) (.slice va ls.length vc) ls.length (encLks ls) rfl (OW7.out.alloc _) ⟨w7.heap.size, 0, none⟩ 1 1 [.int .i64 i, .int .i64 kk, .string (bs pn), .int .i64 ls.length, .slice x7 q z7] rfl rfl NR.out (by rw [← EK.out]; exact encLk_one _) (by unfold maxLen; omega) (by omega) (by have := HG7.out.size; simp; omega) ?_; intro v' wz hown' hgrow' hnil; have HOz := Lib.hid hown'; have HGz := Lib.hid hgrow'; clear hown' hgrow' hnil))
                  go_roundw
                  case rel =>
                    have ga : Gr w7 (w7.alloc (.cells #[.int .i64 i, .int .i64 kk, .string (bs pn), .int .i64 ls.length, .slice x7 q z7] 40)) := (Gr.refl w7).alloc _
                    have OA := Gr.owns OW7.out ga
                    have TYA := TY7.out.gr ga
                    have RA := HRB7.out.gr ga
                    have GA := HG7.out.trans ga
                    refine ⟨k + 1 + q, f, ls ++ [⟨⟨i, kk, pn, (lks ls).length, ar⟩, x7, z7⟩], HLQ.out, by go_num, ?_, by have := HFK.out; omega, by rw [List.length_append]; have := HFK.out; simp only [List.length_cons, List.length_nil]; omega, ?_, (LR7.out.gr ga).kept OA (by decide) HGz.out, slI_kept (SL7.out.giI ga) HGz.out (TYA.ne OA (by decide)) TYA.lt, TYA.kept HGz.out (TYA.ne OA (by decide)), RA.kept HGz.out (RA.ty.ne OA (by decide)), GA.grown HGz.out (fun j e => (OA.lt j e).1)⟩
                    · rw [OF3.out, List.drop_drop]
                      simp only [lks, List.map_append, List.map_cons, List.map_nil]
                    · have := HOz.out
                      rw [List.length_append]
                      unfold encLks at this ⊢
                      rw [List.flatMap_append, List.flatMap_cons, List.flatMap_nil, List.append_nil, EK.out]
                      exact this
                  case measure => simp [intOf]; have := HLT.out; omega
          · obtain rfl : L = k := by omega
            have R2 : Hid (R = .ok (lks ls)) := Lib.hid (by rw [OF.out, List.drop_eq_nil_of_le (by rw [hL.out]; exact Nat.le_refl _)]; cases f <;> rfl)
            have kL : ¬ (L : Int) < (L : Int) := by omega
            clear hlt
            go_wp2_with fail
            rw [HP0.out, R2.out]
            exact ⟨_, ls, rfl, rfl, OW.out, LR.out, HG.out⟩
      · rw [if_neg hok] at hgv OT2
        obtain ⟨rfl, hg⟩ := hgv
        have G3 := Lib.hid (G2.out.trans hg)
        clear hg hok
        go_wp2_with fail
        exact ERR.out _ OT2.out _ G3.out
theorem ci_set (l : List Nat) (x n : Nat) : ci (l.set x n) = (ci l).set x (n : Int) := by simp [ci, List.map_set]
theorem ci_len (l : List Nat) : (ci l).length = l.length := by simp [ci]
theorem ci_rep (n : Nat) : ci (List.replicate n 0) = List.replicate n 0 := by simp [ci]
theorem row_ci {w : World} {B : Nat} {l : List Nat} (h : Row w B 3 (nums (ci l))) (k : Nat) (hk : k < l.length) : w.cell? ⟨B, k, none⟩ = some (.int .i64 (l.getD k 0 : Nat)) := by
  rw [h.iat k (by rw [ci_len]; exact hk), getD_lt hk]; simp [ci]
def GivesD (w : World) (l : List Nat) (e : Ending) (w' : World) : Prop :=
  ∃ DB, e = .returned (.slice (some ⟨DB, 0, none⟩) l.length l.length) ∧ Row w' DB 3 (nums (ci l)) ∧ w.heap.size ≤ DB ∧ Gr w w'
theorem passL_snoc (gs : List (List Int)) (tt m : Nat) (s : List Nat × Bool) : (List.range' tt (m + 1)).foldl (passX gs tt) s = passX gs tt ((List.range' tt m).foldl (passX gs tt) s) (tt + m) := by
  rw [List.range'_concat, List.foldl_append]; simp
theorem fold_snoc {tt x : Nat} (ys : List Int) (k : Nat) (h : k < ys.length) (s : List Nat × Bool) : (ys.take (k + 1)).foldl (relax tt x) s = relax tt x ((ys.take k).foldl (relax tt x) s) ys[k] := by
  rw [List.take_succ_eq_append_getElem h, List.foldl_append]; rfl
theorem relax_nat (tt x j : Nat) (s : List Nat × Bool) : relax tt x s (j : Int) =
    if 0 < (if j = tt then 1 else if tt < j ∧ 0 < s.1.getD j 0 then s.1.getD j 0 + 1 else 0) ∧ (s.1.getD x 0 = 0 ∨ (if j = tt then 1 else if tt < j ∧ 0 < s.1.getD j 0 then s.1.getD j 0 + 1 else 0) < s.1.getD x 0) then (s.1.set x (if j = tt then 1 else if tt < j ∧ 0 < s.1.getD j 0 then s.1.getD j 0 + 1 else 0), true) else s := by
  have e : stepV tt s.1 (j : Int) = if j = tt then 1 else if tt < j ∧ 0 < s.1.getD j 0 then s.1.getD j 0 + 1 else 0 := by
    unfold stepV
    by_cases h : j = tt
    · rw [if_pos h, if_pos (by rw [h])]
    · rw [if_neg h, if_neg (by omega), Int.toNat_natCast]
      by_cases h2 : tt < j ∧ 0 < s.1.getD j 0
      · rw [if_pos h2, if_pos ⟨by omega, h2.2⟩]
      · rw [if_neg h2, if_neg (fun q => h2 ⟨by omega, q.2⟩)]
  unfold relax
  rw [e]
theorem dist_any (gs : List (List Int)) (tt GB base : Nat) (vs : List Value) (w : World) (hga : GAt base w GB vs gs) (hin : InG gs.length gs) (hto : tt < gs.length) (hl : gs.length ≤ 120) (hr : ∀ g ∈ gs, g.length ≤ 7680) :
    Calls Tryz.prog 106 #[.slice (some ⟨GB, 0, none⟩) gs.length gs.length, .int .i64 tt] w (GivesD w (distT gs tt)) := by
  have GA := Lib.hid hga
  have IG := Lib.hid hin
  have RW := Lib.hid hr
  have hto2 : (tt : Int) < gs.length := by omega
  have hmk := run_make_row' (P := Tryz.prog) 38 3 (.int .i64 0) 8 Tryz.underlying38 infoInt rfl .i64 .i64 gs.length (by omega) (by omega)
  clear hga hin hr
  go_enter Tryz.func106, Tryz.ntmps106
  go_wp2_with fail
  have RD := Lib.hid (Row.new w (madeCells #[.int .i64 0] gs.length) 3)
  obtain ⟨W2, hW2⟩ : ∃ W : World, Hid (W = w.alloc (.cells (madeCells #[.int .i64 0] gs.length) 3)) := ⟨_, Lib.hid rfl⟩
  rw [← hW2.out, made_one, show List.replicate gs.length (Value.int .i64 0) = nums (ci (List.replicate gs.length 0)) by rw [ci_rep]; simp [nums]] at RD
  have G2 : Hid (Gr w W2) := Lib.hid (by rw [hW2.out]; exact (Gr.refl _).alloc _)
  obtain ⟨DB, hDB⟩ : ∃ N : Nat, Hid (w.heap.size = N) := ⟨_, Lib.hid rfl⟩
  have sb : Hid (w.heap.size ≤ DB) := Lib.hid (by rw [hDB.out]; exact Nat.le_refl _)
  rw [← hW2.out, hDB.out]
  rw [hDB.out] at RD
  clear hmk hW2
  go_loopg [6] ((gs.length + 1) * gs.length + 2) (fun g c wr => ∃ (out : List Nat) (b : Bool), c = .bool b ∧ out.length = gs.length ∧ Row wr DB 3 (nums (ci out)) ∧ Gr w wr ∧ (b = false → distT gs tt = out) ∧ (b = true → ∃ f, g = f + 1 ∧ DOk gs tt out ∧ ms gs.length out < f ∧ distT gs tt = distF gs tt f out))
  case atStart => exact ⟨List.replicate gs.length 0, true, rfl, by simp, RD.out, G2.out, fun q => absurd q (by decide), fun _ => ⟨(gs.length + 1) * gs.length + 1, rfl, DOk.start gs tt, distT_fuel gs tt, rfl⟩⟩
  case round =>
    clear RD G2
    obtain ⟨out, b, rfl, hol, hrow, hg, hfa, htr⟩ := hrel
    have OL := Lib.hid hol
    have RO := Lib.hid hrow
    have HG := Lib.hid hg
    clear hol hrow hg
    cases b with
    | false =>
      have FA := Lib.hid (hfa rfl)
      clear hfa htr
      go_wp2_with fail
      go_ret
      exact ⟨DB, by rw [FA.out, OL.out]; rfl, by rw [FA.out]; exact RO.out, sb.out, HG.out⟩
    | true =>
      obtain ⟨f, hgf, hok, hms, hdf⟩ := htr rfl
      obtain ⟨f', hf'⟩ : ∃ f', f = f' + 1 := ⟨f - 1, by omega⟩
      have GF := Lib.hid hgf
      have OK := Lib.hid hok
      have MS := Lib.hid hms
      have DF : Hid (distT gs tt = if (passD gs tt (out, false)).2 = true then distF gs tt f' (passD gs tt (out, false)).1 else (passD gs tt (out, false)).1) := Lib.hid (by rw [hdf, hf', distF])
      have FF := Lib.hid hf'
      clear hgf hok hms hdf hf' hfa htr
      go_wp2_with fail
      go_loopw [6, 7] (fun c x wr => ∃ m : Nat, tt + m ≤ gs.length ∧ x = .int .i64 ((tt + m : Nat) : Int) ∧ ∃ s : List Nat × Bool, Hid (s = (List.range' tt m).foldl (passX gs tt) (out, false)) ∧ c = .bool s.2 ∧ Row wr DB 3 (nums (ci s.1)) ∧ Gr w wr) (fun _ x _ => gs.length - (intOf x).toNat)
      case atStart => exact ⟨0, by omega, rfl, (out, false), Lib.hid rfl, rfl, RO.out, HG.out⟩
      case round =>
        obtain ⟨m, hm, rfl, s, HS, rfl, hrow, hg⟩ := hrel
        have RS := Lib.hid hrow
        have HG := Lib.hid hg
        clear hrow hg
        have SO : Hid (DLe gs tt (out, false) s) := Lib.hid (by rw [HS.out]; exact passL_ok _ _ (fun x hx => by have := List.mem_range'_1.1 hx; omega) OK.out)
        obtain ⟨x, hx⟩ : ∃ x, tt + m = x := ⟨_, rfl⟩
        rw [hx] at hm ⊢
        have HX := Lib.hid hx
        clear hx
        by_cases hlt : x < gs.length
        · have hlt2 : (x : Int) < gs.length := by omega
          obtain ⟨ra, rc, hvi, hro⟩ := GA.out.at hlt
          obtain ⟨g, hgk⟩ : ∃ g, g = gs[x] := ⟨_, rfl⟩
          have HGK := Lib.hid hgk
          rw [← hgk] at hvi hro
          have hgd : gs.getD x [] = g := by rw [List.getD_eq_getElem?_getD, List.getElem?_eq_getElem hlt]; exact hgk.symm
          have GD := Lib.hid hgd
          have hinn : ∀ y ∈ g, ∃ j : Nat, y = j ∧ j < gs.length := IG.out g (by rw [hgk]; exact List.getElem_mem hlt)
          have IN := Lib.hid hinn
          have hil : x < vs.length := (List.getElem?_eq_some_iff.1 hvi).1
          have gk0 : wr.cell? ⟨GB, x, none⟩ = some (.slice ra g.length rc) := by rw [(GA.out.gr HG.out).row.cell x hil]; exact congrArg some (List.getElem?_eq_some_iff.1 hvi).2
          have hh3 := has_of_cell gk0
          have hgw : ∀ z ∈ g, Wide z := fun z hz => by obtain ⟨j, rfl, hj⟩ := hinn z hz; unfold Wide; omega
          obtain ⟨ra', rc', e', _, hsl⟩ := ints_at hro hgw
          cases e'
          have hgl : g.length ≤ 7680 := RW.out g (by rw [hgk]; exact List.getElem_mem hlt)
          have SL := Lib.hid hsl
          clear hgk hgd hinn hvi hro hgw hsl hil
          go_wp2_with fail
          clear gk0 hh3
          go_loopw [6, 27] (fun c i wr => ∃ k : Nat, k ≤ g.length ∧ i = .int .i64 k ∧ ∃ s' : List Nat × Bool, Hid (s' = (g.take k).foldl (relax tt x) s) ∧ c = .bool s'.2 ∧ Row wr DB 3 (nums (ci s'.1)) ∧ Gr w wr) (fun _ i _ => g.length - (intOf i).toNat)
          case atStart => exact ⟨0, Nat.zero_le _, rfl, s, Lib.hid rfl, rfl, RS.out, HG.out⟩
          case round =>
            obtain ⟨k, hk, rfl, s', HS', rfl, hrow, hg⟩ := hrel
            have RS' := Lib.hid hrow
            have HG' := Lib.hid hg
            clear hrow hg
            by_cases hkl : k < g.length
            · have SO' : Hid (DLe gs tt s s') := Lib.hid (by rw [HS'.out]; exact fold_ok hlt _ s (fun y hy => by rw [GD.out]; exact List.mem_of_mem_take hy) SO.out.ok)
              obtain ⟨b, o, rfl, c0, _⟩ := (SL.out.giI HG'.out).one k hkl
              obtain ⟨j, hjk, hjl⟩ := IN.out g[k] (List.getElem_mem hkl)
              have KEY : Hid ((g.take (k + 1)).foldl (relax tt x) s = relax tt x s' (j : Int)) := Lib.hid (by rw [fold_snoc g k hkl, ← HS'.out, hjk])
              rw [hjk] at c0
              clear hjk
              have hl' : s'.1.length = gs.length := SO'.out.ok.len
              have cj := row_ci RS'.out j (by rw [hl']; exact hjl)
              have cx := row_ci RS'.out x (by rw [hl']; exact hlt)
              have mj := SO'.out.ok.max j
              have mx := SO'.out.ok.max x
              rw [relax_nat] at KEY
              obtain ⟨u, hu⟩ : ∃ u, s'.1.getD j 0 = u := ⟨_, rfl⟩
              obtain ⟨v, hv⟩ : ∃ v, s'.1.getD x 0 = v := ⟨_, rfl⟩
              rw [hu] at KEY cj mj
              rw [hv] at KEY cx mx
              have hh1 := has_of_cell c0
              have hh2 := has_of_cell cj
              have fr := RS'.out.free x
              have hjl2 : (j : Int) < gs.length := by omega
              clear hu hv hl'
              by_cases q1 : j = tt
              · subst q1
                rw [if_pos rfl] at KEY
                have e1 : ((j : Int) == (j : Int)) = true := by simp
                rcases Nat.lt_trichotomy v 1 with q2 | q2 | q2
                · obtain rfl : v = 0 := by omega
                  have KE : Hid ((g.take (k + 1)).foldl (relax j x) s = (s'.1.set x (1), true)) := Lib.hid (by rw [KEY.out]; first | rfl | (rw [if_pos (by omega)]))
                  clear KEY
                  go_wp2_with fail
                  exact ⟨⟨k + 1, by omega, by go_num, (s'.1.set x (1), true), Lib.hid KE.out.symm, rfl, by rw [ci_set]; exact RS'.out.iset x _, HG'.out.setc sb.out⟩, by simp [intOf]; omega⟩
                · subst q2
                  have KE : Hid ((g.take (k + 1)).foldl (relax j x) s = s') := Lib.hid (by rw [KEY.out]; first | rfl | (rw [if_neg (by omega)]))
                  clear KEY
                  go_wp2_with fail
                  exact ⟨⟨k + 1, by omega, by go_num, s', Lib.hid KE.out.symm, rfl, RS'.out, HG'.out⟩, by simp [intOf]; omega⟩
                · have e2 : ((v : Int) == 0) = false := by simp; omega
                  have e3 : (1 : Int) < v := by omega
                  have KE : Hid ((g.take (k + 1)).foldl (relax j x) s = (s'.1.set x (1), true)) := Lib.hid (by rw [KEY.out]; first | rfl | (rw [if_pos (by omega)]))
                  clear KEY
                  go_wp2_with fail
                  exact ⟨⟨k + 1, by omega, by go_num, (s'.1.set x (1), true), Lib.hid KE.out.symm, rfl, by rw [ci_set]; exact RS'.out.iset x _, HG'.out.setc sb.out⟩, by simp [intOf]; omega⟩
              · rw [if_neg q1] at KEY
                have e1 : ((j : Int) == (tt : Int)) = false := by simp; omega
                by_cases q2 : tt < j
                · have e2 : (tt : Int) < j := by omega
                  rcases Nat.eq_zero_or_pos u with q3 | q3
                  · subst q3
                    rw [show (if tt < j ∧ 0 < 0 then 0 + 1 else 0) = 0 from if_neg (by omega)] at KEY
                    have KE : Hid ((g.take (k + 1)).foldl (relax tt x) s = s') := Lib.hid (by rw [KEY.out]; first | rfl | (rw [if_neg (by omega)]))
                    clear KEY
                    go_wp2_with fail
                    exact ⟨⟨k + 1, by omega, by go_num, s', Lib.hid KE.out.symm, rfl, RS'.out, HG'.out⟩, by simp [intOf]; omega⟩
                  · have e3 : (0 : Int) < u := by omega
                    have e4 : (0 : Int) < (u : Int) + 1 := by omega
                    rw [show (if tt < j ∧ 0 < u then u + 1 else 0) = u + 1 from if_pos ⟨q2, q3⟩] at KEY
                    rcases Nat.eq_zero_or_pos v with q4 | q4
                    · subst q4
                      have KE : Hid ((g.take (k + 1)).foldl (relax tt x) s = (s'.1.set x (u + 1), true)) := Lib.hid (by rw [KEY.out]; first | rfl | (rw [if_pos (by omega)]))
                      clear KEY
                      go_wp2_with fail
                      exact ⟨⟨k + 1, by omega, by go_num, (s'.1.set x (u + 1), true), Lib.hid KE.out.symm, rfl, by rw [ci_set]; exact RS'.out.iset x _, HG'.out.setc sb.out⟩, by simp [intOf]; omega⟩
                    · have e5 : ((v : Int) == 0) = false := by simp; omega
                      by_cases q5 : u + 1 < v
                      · have e6 : (u : Int) + 1 < v := by omega
                        have KE : Hid ((g.take (k + 1)).foldl (relax tt x) s = (s'.1.set x (u + 1), true)) := Lib.hid (by rw [KEY.out]; first | rfl | (rw [if_pos (by omega)]))
                        clear KEY
                        go_wp2_with fail
                        exact ⟨⟨k + 1, by omega, by go_num, (s'.1.set x (u + 1), true), Lib.hid KE.out.symm, rfl, by rw [ci_set]; exact RS'.out.iset x _, HG'.out.setc sb.out⟩, by simp [intOf]; omega⟩
                      · have e6 : ¬ (u : Int) + 1 < v := by omega
                        have KE : Hid ((g.take (k + 1)).foldl (relax tt x) s = s') := Lib.hid (by rw [KEY.out]; first | rfl | (rw [if_neg (by omega)]))
                        clear KEY
                        go_wp2_with fail
                        exact ⟨⟨k + 1, by omega, by go_num, s', Lib.hid KE.out.symm, rfl, RS'.out, HG'.out⟩, by simp [intOf]; omega⟩
                · have e2 : ¬ (tt : Int) < j := by omega
                  rw [show (if tt < j ∧ 0 < u then u + 1 else 0) = 0 from if_neg (fun q => q2 q.1)] at KEY
                  have KE : Hid ((g.take (k + 1)).foldl (relax tt x) s = s') := Lib.hid (by rw [KEY.out]; first | rfl | (rw [if_neg (by omega)]))
                  clear KEY
                  go_wp2_with fail
                  exact ⟨⟨k + 1, by omega, by go_num, s', Lib.hid KE.out.symm, rfl, RS'.out, HG'.out⟩, by simp [intOf]; omega⟩
            · have hkk : k = g.length := by omega
              subst hkk
              have KE : Hid ((List.range' tt (m + 1)).foldl (passX gs tt) (out, false) = s') := Lib.hid (by rw [passL_snoc, ← HS.out, HX.out, HS'.out, List.take_length]; unfold passX; rw [GD.out])
              go_wp2_with fail
              exact ⟨⟨m + 1, by have := HX.out; omega, by congr 1; have := HX.out; omega, s', Lib.hid KE.out.symm, rfl, RS'.out, HG'.out⟩, by simp [intOf]; omega⟩
        · have hxx : x = gs.length := by omega
          have KE : Hid (passD gs tt (out, false) = s) := Lib.hid (by unfold passD; rw [HS.out]; congr 2; have := HX.out; omega)
          subst hxx
          go_wp2_with fail
          go_roundg f
          case measure => have := GF.out; omega
          case rel =>
            refine ⟨s.1, s.2, rfl, SO.out.ok.len, RS.out, HG.out, fun q => ?_, fun q => ⟨f', FF.out, SO.out.ok, ?_, ?_⟩⟩
            · rw [DF.out, KE.out, if_neg (by rw [q]; decide)]
            · rcases SO.out.ch with ⟨a, _⟩ | ⟨_, b⟩
              · rw [q] at a; cases a
              · have b' : ms gs.length s.1 < ms gs.length out := b
                have := MS.out
                have := FF.out
                omega
            · rw [DF.out, KE.out, if_pos q]
structure CBox (w : World) (d : List Nat) (first at' FB QB AB DB : Nat) : Prop where
  f : w.cell? ⟨FB, 0, none⟩ = some (.int .i64 first)
  q : w.cell? ⟨QB, 0, none⟩ = some (.slice (some ⟨DB, 0, none⟩) d.length d.length)
  a : w.cell? ⟨AB, 0, none⟩ = some (.int .i64 at')
  row : Row w DB 3 (nums (ci d))
theorem CBox.gr {w w' : World} {d : List Nat} {first at' FB QB AB DB : Nat} (h : CBox w d first at' FB QB AB DB) (hg : Gr w w') : CBox w' d first at' FB QB AB DB :=
  ⟨cell_gr hg h.f, cell_gr hg h.q, cell_gr hg h.a, h.row.gr hg⟩
theorem backB_eq (d : List Nat) (first at' y : Nat) : backB d first at' (y : Int) = (decide ((first : Int) < (y : Int)) && decide (((d.getD y 0 : Nat) : Int) = ((d.getD at' 0 : Nat) : Int) - 1)) := by
  unfold backB
  rw [Int.toNat_natCast]
  congr 1
  apply decide_eq_decide.2
  omega
theorem cir1_any (d : List Nat) (first at' y FB QB AB DB : Nat) (w : World) (h : CBox w d first at' FB QB AB DB) (hl : d.length ≤ 120) (hm : ∀ x, d.getD x 0 ≤ 120) (hy : y < d.length) (ha : at' < d.length) :
    Calls Tryz.prog 108 #[.int .i64 y, .pointer (some ⟨FB, 0, none⟩), .pointer (some ⟨QB, 0, none⟩), .pointer (some ⟨AB, 0, none⟩)] w (Grows w (.bool (backB d first at' (y : Int)))) := by
  have E := Lib.hid (backB_eq d first at' y)
  obtain ⟨c1, c2, c3, hr⟩ := h
  have c4 := row_ci hr y hy
  have c5 := row_ci hr at' ha
  have m1 := hm y
  have m2 := hm at'
  rw [E.out]
  obtain ⟨u, hu⟩ : ∃ u, d.getD y 0 = u := ⟨_, rfl⟩
  obtain ⟨v, hv⟩ : ∃ v, d.getD at' 0 = v := ⟨_, rfl⟩
  rw [hu] at c4 m1 ⊢
  rw [hv] at c5 m2 ⊢
  have h1 := has_of_cell c1
  have h2 := has_of_cell c2
  have h3 := has_of_cell c3
  have h4 := has_of_cell c4
  have i1 : (y : Int) < d.length := by omega
  have i2 : (at' : Int) < d.length := by omega
  clear hu hv E hm hr
  by_cases q1 : first < y
  · have q1' : (first : Int) < (y : Int) := by omega
    go_enter Tryz.func108, Tryz.ntmps108
    go_wp2
    go_quiet (fail)
    go_wp2
    go_ret
    exact ⟨ret_bool (by simp only [decide_eq_true q1', Bool.true_and]; rfl), by repeat (first | with_reducible exact Gr.refl _ | with_reducible refine Gr.drewN _ ?_)⟩
  · have q1' : ¬ (first : Int) < (y : Int) := by omega
    have q2 : decide ((first : Int) < (y : Int)) = false := decide_eq_false q1'
    go_enter Tryz.func108, Tryz.ntmps108
    go_wp2
    go_quiet (fail)
    go_wp2
    go_ret
    exact ⟨ret_bool (by rw [q2]; rfl), by repeat (first | with_reducible exact Gr.refl _ | with_reducible refine Gr.drewN _ ?_)⟩
theorem idxC_any (ys : List Int) (d : List Nat) (first at' FB QB AB DB : Nat) (a : Option Addr) (cap : Nat) (w : World) (h : SlOf 1 RI w a ys) (hf : ys.length ≤ 7680) (hy : ∀ y ∈ ys, ∃ j : Nat, y = j ∧ j < d.length) (hb : CBox w d first at' FB QB AB DB) (hl : d.length ≤ 120) (hm : ∀ x, d.getD x 0 ≤ 120) (ha : at' < d.length) (z : Int) (hz : ys.find? (backB d first at') = some z) :
    Calls Tryz.prog 107 #[.slice a ys.length cap, .func (.func 108) #[] #[.pointer (some ⟨FB, 0, none⟩), .pointer (some ⟨QB, 0, none⟩), .pointer (some ⟨AB, 0, none⟩)]] w fun e w' => ∃ k : Nat, e = .returned (.int .i64 k) ∧ (∃ hk : k < ys.length, ys[k] = z) ∧ Gr w w' := by
  have H := Lib.hid h
  have HY := Lib.hid hy
  have HB := Lib.hid hb
  have HM := Lib.hid hm
  have HZ := Lib.hid hz
  clear h hy hb hm hz
  go_enter Tryz.func107, Tryz.ntmps107
  go_wp2_with fail
  go_loopw [8] (fun i wr => ∃ k : Nat, k ≤ ys.length ∧ i = .int .i64 k ∧ (∀ j (hj : j < k) (hjl : j < ys.length), backB d first at' ys[j] = false) ∧ Gr w wr) (fun i _ => ys.length - (intOf i).toNat)
  case atStart => exact ⟨0, Nat.zero_le _, rfl, fun j h => absurd h (by omega), Gr.refl _⟩
  case round =>
    obtain ⟨k, hk, rfl, hall, hg⟩ := hrel
    have HA := Lib.hid hall
    have HG := Lib.hid hg
    clear hall hg
    by_cases hlt : k < ys.length
    · obtain ⟨b, o, rfl, c0, _⟩ := (H.out.giI HG.out).one k hlt
      obtain ⟨y, hyk, hyl⟩ := HY.out ys[k] (List.getElem_mem hlt)
      have HYK := Lib.hid hyk
      rw [hyk] at c0
      have hh := has_of_cell c0
      have hc := cir1_any d first at' y FB QB AB DB wr (HB.out.gr HG.out) hl HM.out hyl ha
      have HC := Lib.hid hc
      clear hc hyk
      by_cases hv : backB d first at' (y : Int) = true
      · rw [hv] at HC
        have V := Lib.hid hv
        clear hv
        go_wp2_with (go_at_call 108; refine HC.out.mono ?_; rintro e w' ⟨rfl, O, dd, rfl⟩)
        go_ret
        refine ⟨k, rfl, ⟨hlt, ?_⟩, HG.out.xt _ _⟩
        obtain ⟨hp, l1, l2, hs, hn⟩ := List.find?_eq_some_iff_append.1 HZ.out
        have hp' : (backB d first at' z) = true := by simpa using hp
        have hidx : l1.length = k := by
          rcases Nat.lt_trichotomy l1.length k with q | q | q
          · have hl2 : l1.length < ys.length := by omega
            have e : ys[l1.length] = z := by simp [hs]
            have := HA.out l1.length q hl2
            rw [e, hp'] at this
            cases this
          · exact q
          · have e : ys[k] = l1[k] := by simp [hs, List.getElem_append_left q]
            have := hn l1[k] (List.getElem_mem q)
            rw [← e, HYK.out, V.out] at this
            cases this
        subst hidx
        simp [hs]
      · rw [Bool.not_eq_true] at hv
        rw [hv] at HC
        have V := Lib.hid hv
        clear hv
        go_wp2_with (go_at_call 108; refine HC.out.mono ?_; rintro e w' ⟨rfl, O, dd, rfl⟩)
        go_roundw
        case rel =>
          refine ⟨k + 1, by omega, by go_num, fun j hj hjl => ?_, HG.out.xt _ _⟩
          by_cases e : j = k
          · subst e; rw [HYK.out]; exact V.out
          · exact HA.out j (by omega) hjl
        case measure => simp [intOf]; omega
    · exfalso
      have hp := List.find?_some HZ.out
      obtain ⟨j, hj, e⟩ := List.getElem_of_mem (List.mem_of_find?_eq_some HZ.out)
      have := HA.out j (by omega) hj
      rw [e] at this
      simp [this] at hp
theorem circF_stop (gs : List (List Int)) (d : List Nat) (first f at' : Nat) (out : List Int) (h : ¬ 1 < d.getD at' 0) : circF gs d first f at' out = out := by
  cases f with
  | zero => rfl
  | succ f => rw [circF, if_neg h]
def GivesC (w : World) (c : List Int) (e : Ending) (w' : World) : Prop :=
  ∃ v, e = .returned v ∧ w'.ownsRow w.heap.size 3 1 v c.length (nums c) ∧ (∀ z ∈ c, Wide z) ∧ Gr w w'
theorem circle_any' (gs : List (List Int)) (first GB base : Nat) (vs : List Value) (w : World) (hga : GAt base w GB vs gs) (hin : InG gs.length gs) (hfi : first < gs.length) (hl : gs.length ≤ 120) (hr : ∀ g ∈ gs, g.length ≤ 7680) :
    Calls Tryz.prog 54 #[.slice (some ⟨GB, 0, none⟩) gs.length gs.length, .int .i64 first] w (GivesC w (circT gs first)) := by
  have GA := Lib.hid hga
  have IG := Lib.hid hin
  have RW := Lib.hid hr
  obtain ⟨i0, hi, hz0, hz1, hz2⟩ := info_parts infoInt
  clear hga hin hr
  go_enter Tryz.func54, Tryz.ntmps54
  go_wp2_with fail
  refine (dist_any gs first GB base vs _ (GA.out.gr ((Gr.refl _).alloc _)) IG.out hfi hl RW.out).mono ?_
  rintro e w1 ⟨DB, rfl, hrow, hdb, hg⟩
  obtain ⟨d, hd⟩ : ∃ d, distT gs first = d := ⟨_, rfl⟩
  have DF : Hid (DFin gs first d) := Lib.hid (by rw [← hd]; exact distT_fin gs first)
  have HD := Lib.hid hd
  rw [hd] at hrow ⊢
  have RD := Lib.hid hrow
  have HDB := Lib.hid hdb
  have HG := Lib.hid hg
  have RF := Lib.hid ((Row.new w #[.int .i64 first] 3).gr hg)
  have dl : d.length = gs.length := DF.out.ok.len
  have dm := DF.out.ok.max first
  have cf := row_ci hrow first (by rw [dl]; exact hfi)
  obtain ⟨u, hu⟩ : ∃ u, d.getD first 0 = u := ⟨_, rfl⟩
  have HU := Lib.hid hu
  rw [hu] at cf dm
  have hh1 := has_of_cell cf
  have ef : (first : Int) < d.length := by omega
  rw [dl] at ef ⊢
  obtain ⟨FB, hFB⟩ : ∃ N : Nat, Hid (w.heap.size = N) := ⟨_, Lib.hid rfl⟩
  rw [hFB.out] at RF ⊢
  have qf : w1.cell? ⟨FB, 0, none⟩ = some (.int .i64 first) := RF.out.cell 0 (by simp)
  have hh2 := has_of_cell qf
  clear hd hrow hdb hg dl hu
  rcases Nat.eq_zero_or_pos u with u0 | u0
  · subst u0
    have R : Hid (circT gs first = []) := Lib.hid (by unfold circT; rw [HD.out, if_pos HU.out])
    go_wp2_with fail
    go_ret
    rw [R.out]
    exact ⟨_, rfl, World.ownsRow_nil _ _ _ _, fun z h => by simp at h, ((((Gr.refl w).alloc _).trans HG.out).alloc _)⟩
  · have eu : ((u : Int) == 0) = false := by simp; omega
    have R : Hid (circT gs first = circF gs d first gs.length first [(first : Int)]) := Lib.hid (by unfold circT; rw [HD.out, if_neg (by rw [HU.out]; omega)])
    go_wp2_with fail
    have RQ := Lib.hid (Row.new w1 #[.slice (some ⟨DB, 0, none⟩) gs.length gs.length] 38)
    obtain ⟨W2, hW2⟩ : ∃ W : World, Hid (W = w1.alloc (.cells #[.slice (some ⟨DB, 0, none⟩) gs.length gs.length] 38)) := ⟨_, Lib.hid rfl⟩
    obtain ⟨QB, hQB⟩ : ∃ N : Nat, Hid (w1.heap.size = N) := ⟨_, Lib.hid rfl⟩
    have z2 : Hid (W2.heap.size = QB + 1) := Lib.hid (by rw [hW2.out]; simp [hQB.out])
    have RO := Lib.hid (Row.new W2 #[.int .i64 first] 3)
    have RA := Lib.hid (Row.new (W2.alloc (.cells #[.int .i64 first] 3)) #[.int .i64 first] 3)
    rw [World.size_alloc, z2.out] at RA
    rw [← hW2.out] at RQ ⊢
    rw [z2.out] at RO
    rw [hQB.out] at RQ ⊢
    have G2 : Hid (Gr w1 W2) := Lib.hid (by rw [hW2.out]; exact (Gr.refl _).alloc _)
    have GW : Hid (Gr w W2) := Lib.hid (((Gr.refl w).alloc _).trans (HG.out.trans G2.out))
    have B2 : Hid (W2.heap.size = QB + 1) := z2
    have RF2 := Lib.hid (RF.out.gr G2.out)
    have RD2 := Lib.hid (RD.out.gr G2.out)
    have GA2 := Lib.hid (GA.out.gr GW.out)
    have sw : Hid (w.heap.size ≤ QB + 1) := Lib.hid (by rw [← z2.out]; exact GW.out.size)
    have dl : d.length = gs.length := DF.out.ok.len
    have hU1 : Hid (d.getD first 0 = u) := HU
    have RO2 := Lib.hid (RO.out.alloc (.cells #[.int .i64 first] 3))
    clear hW2 cf hh1 hh2 qf RO z2
    go_loopg [6, 7] gs.length (fun g sl pt wr => ∃ (at' : Nat) (out : List Int) (AB : Nat), pt = .pointer (some ⟨AB, 0, none⟩) ∧ at' < gs.length ∧ first ≤ at' ∧ 1 ≤ d.getD at' 0 ∧ d.getD at' 0 ≤ g ∧ out.length + d.getD at' 0 ≤ 121 ∧ circT gs first = circF gs d first g at' out ∧ (∀ z ∈ out, Wide z) ∧ wr.ownsRow (QB + 1) 3 1 sl out.length (nums out) ∧ QB + 1 ≤ AB ∧ sl.ownBlock ≠ some AB ∧ Row wr AB 3 [.int .i64 at'] ∧ Gr W2 wr)
    case atStart =>
      refine ⟨first, [(first : Int)], QB + 1 + 1, rfl, hfi, Nat.le_refl _, by rw [hU1.out]; exact u0, by rw [hU1.out]; exact dm, by rw [hU1.out]; simp; omega, R.out, fun z h => by rw [List.mem_singleton.1 h]; unfold Wide; omega, ?_, by omega, by simp [Value.ownBlock], RA.out, ((Gr.refl _).alloc _).alloc _⟩
      exact row_owns (xs := nums [(first : Int)]) RO2.out (Nat.le_refl _) (by simp [nums]) (by unfold maxLen; simp)
    case round =>
      clear RA RO2
      obtain ⟨at', out, AB, rfl, hat, hfa, hd1, hdg, hol, hci, hwd, how, hab, hne, hra, hg⟩ := hrel
      obtain ⟨va, vc, rfl⟩ := owns_slice how
      have HCI := Lib.hid hci
      have WD := Lib.hid hwd
      have OW := Lib.hid how
      have NE := Lib.hid hne
      have RA := Lib.hid hra
      have HGR := Lib.hid hg
      have cat := row_ci (RD2.out.gr hg) at' (by rw [dl]; exact hat)
      have qq : wr.cell? ⟨QB, 0, none⟩ = some (.slice (some ⟨DB, 0, none⟩) gs.length gs.length) := (RQ.out.gr hg).cell 0 (by simp)
      have qa : wr.cell? ⟨AB, 0, none⟩ = some (.int .i64 at') := hra.cell 0 (by simp)
      have qf : wr.cell? ⟨FB, 0, none⟩ = some (.int .i64 first) := (RF2.out.gr hg).cell 0 (by simp)
      obtain ⟨v, hv⟩ : ∃ v, d.getD at' 0 = v := ⟨_, rfl⟩
      have HV := Lib.hid hv
      rw [hv] at cat hd1 hdg hol
      have k1 := has_of_cell cat
      have k2 := has_of_cell qq
      have k3 := has_of_cell qa
      have k4 := has_of_cell qf
      have ea : (at' : Int) < gs.length := by omega
      have HDG := Lib.hid hdg
      have HOL := Lib.hid hol
      clear hci hwd how hne hra hg hv hdg hol
      by_cases h1 : 1 < v
      · have e1 : (1 : Int) < v := by omega
        obtain ⟨y, hyz, hym, hyf, hyd⟩ := find_back DF.out hfa hat (by rw [HV.out]; exact h1)
        rw [HV.out] at hyd
        obtain ⟨ra, rc, hvi, hro⟩ := GA2.out.at hat
        obtain ⟨g, hgk⟩ : ∃ g, g = gs[at'] := ⟨_, rfl⟩
        have HGK := Lib.hid hgk
        rw [← hgk] at hvi hro
        have hgd : gs.getD at' [] = g := by rw [List.getD_eq_getElem?_getD, List.getElem?_eq_getElem hat]; exact hgk.symm
        have hinn : ∀ y ∈ g, ∃ j : Nat, y = j ∧ j < gs.length := IG.out g (by rw [hgk]; exact List.getElem_mem hat)
        rw [hgd] at hym hyz
        obtain ⟨yn, rfl, hyn⟩ := hinn y hym
        rw [Int.toNat_natCast] at hyd
        have hil : at' < vs.length := (List.getElem?_eq_some_iff.1 hvi).1
        have gk0 : wr.cell? ⟨GB, at', none⟩ = some (.slice ra g.length rc) := by rw [(GA2.out.gr HGR.out).row.cell at' hil]; exact congrArg some (List.getElem?_eq_some_iff.1 hvi).2
        have hgw : ∀ z ∈ g, Wide z := fun z hz => by obtain ⟨j, rfl, hj⟩ := hinn z hz; unfold Wide; omega
        obtain ⟨ra', rc', e', _, hsl⟩ := ints_at hro hgw
        cases e'
        have hgl : g.length ≤ 7680 := RW.out g (by rw [hgk]; exact List.getElem_mem hat)
        have k5 := has_of_cell gk0
        have SL := Lib.hid hsl
        have HC := Lib.hid (idxC_any g d first at' FB QB AB DB ra rc wr (hsl.giI HGR.out) hgl (by rw [dl]; exact hinn) ⟨qf, by rw [dl]; exact qq, qa, RD2.out.gr HGR.out⟩ (by rw [dl]; exact hl) (fun x => Nat.le_trans (DF.out.ok.max x) hl) (by rw [dl]; exact hat) _ hyz)
        obtain ⟨g1, hg1⟩ : ∃ g1, gk = g1 + 1 := ⟨gk - 1, by have := HDG.out; omega⟩
        have HG1 := Lib.hid hg1
        have NX : Hid (circT gs first = circF gs d first g1 yn (out ++ [(yn : Int)])) := Lib.hid (by rw [HCI.out, hg1, circF, if_pos (by rw [HV.out]; exact h1), hgd, hyz]; simp)
        have HYF := Lib.hid hyf
        have HYD := Lib.hid hyd
        have hyi : (yn : Int) < gs.length := by omega
        clear hg1 hyf hyd hyz hym hvi hro hgk hgd hinn hil hgw hsl
        go_wp2_with (first
          | (go_at_call 107; refine HC.out.mono ?_; rintro e w6 ⟨k, rfl, hkx, hg6⟩; obtain ⟨hk, hky⟩ := hkx; have G6 := Lib.hid (HGR.out.trans hg6); obtain ⟨xb, xo, rfl, c6, _⟩ := (SL.out.giI G6.out).one k hk; rw [hky] at c6; have c7 := cell_gr hg6 gk0; have c8 := cell_gr hg6 qa; have k6 := has_of_cell c6; have k7 := has_of_cell c7; have k8 := has_of_cell c8; have hk2 : (k : Int) < g.length := (by omega); have OWX := Lib.hid ((Gr.owns OW.out (hg6)).alloc (.cells #[.int .i64 yn] 3)); have RA6 := Lib.hid ((RA.out.gr hg6).alloc (.cells #[.int .i64 yn] 3)); have NR := Lib.hid (row_cells (Row.new w6 #[.int .i64 yn] 3)); have hs6 : QB + 1 ≤ w6.heap.size := (by rw [← B2.out]; exact G6.out.size); have GX := Lib.hid (G6.out.alloc (.cells #[.int .i64 yn] 3)); clear hg6 hky)
          | (at_builtin; refine wpList_append_own _ rfl _ _ 38 rfl (QB + 1) 3 i0 (.int .i64 0) 1 8 Tryz.underlying38 hi hz0 hz1 hz2 rfl (by decide) (.slice va out.length vc) out.length (nums out) rfl OWX.out ⟨w6.heap.size, 0, none⟩ 1 1 [.int .i64 yn] rfl rfl NR.out (by intro u hu; simp at hu; rw [hu]; rfl) (by unfold maxLen; have := HOL.out; omega) (by have := HOL.out; omega) (by simp; omega) ?_; intro v' wz hown' hgrow hnil; have HGz := Lib.hid hgrow; obtain ⟨gz, cz, rfl, hcz, hgb, hcc⟩ := owns_cell hown' (by omega); have HOz := Lib.hid hown'; have c9 : wz.cell? ⟨gz, out.length, none⟩ = some (.int .i64 yn) := (by rw [hcc out.length (by omega)]; simp [nums]); have RAz := Lib.hid (RA6.out.kept HGz.out (fun e => NE.out e.symm)); have c10 : wz.cell? ⟨AB, 0, none⟩ = some (.int .i64 at') := RAz.out.cell 0 (by simp); have k9 := has_of_cell c9; have k10 := has_of_cell c10; have hlx : (out.length : Int) < 122 := (by have := HOL.out; omega); clear hown' hgrow hnil hcc))
        have GZ : Gr W2 wz := GX.out.grown HGz.out (fun j e => by rw [B2.out]; exact (OWX.out.lt j e).1)
        have hown : wz.ownsRow (QB + 1) 3 1 (.slice (some ⟨gz, 0, none⟩) (out.length + 1) cz) (out ++ [(yn : Int)]).length (nums (out ++ [(yn : Int)])) := by
          have := HOz.out
          rw [List.length_append]
          simpa [nums] using this
        go_roundg g1
        case measure => have := HG1.out; omega
        case rel =>
          have y1 := HYD.out
          have y2 := HYF.out
          refine ⟨yn, out ++ [(yn : Int)], wz.heap.size, rfl, hyn, by omega, by omega, by have := HDG.out; have := HG1.out; omega, by rw [List.length_append]; have := HOL.out; simp only [List.length_cons, List.length_nil]; omega, NX.out, ?_, hown.alloc _, ?_, ?_, Row.new wz #[.int .i64 yn] 3, GZ.alloc _⟩
          · intro z hz
            rcases List.mem_append.1 hz with q | q
            · exact WD.out z q
            · rw [List.mem_singleton.1 q]; unfold Wide; omega
          · rw [← B2.out]; exact GZ.size
          · intro e
            have := (hown.lt _ e).2
            omega
      · have e1 : ¬ (1 : Int) < v := by omega
        have RR : Hid (circT gs first = out) := Lib.hid (by rw [HCI.out, circF_stop _ _ _ _ _ _ (by rw [HV.out]; exact h1)])
        go_wp2_with fail
        go_ret
        rw [RR.out]
        exact ⟨_, rfl, owns_low OW.out sw.out, WD.out, GW.out.trans HGR.out⟩
theorem bestT_snoc (gs : List (List Int)) (m : Nat) : (List.range (m + 1)).foldl (bestF gs) [] = bestF gs ((List.range m).foldl (bestF gs) []) m := by
  rw [List.range_succ, List.foldl_append]; rfl
theorem circF_len (gs : List (List Int)) (d : List Nat) (first : Nat) : ∀ (f at' : Nat) (out : List Int), (circF gs d first f at' out).length ≤ out.length + f
  | 0, _, out => Nat.le_refl _
  | f + 1, at', out => by
    rw [circF]
    split
    · split
      · have := circF_len gs d first f (Int.toNat ‹Int›) (out ++ [‹Int›])
        rw [List.length_append] at this
        simp only [List.length_cons, List.length_nil] at this
        omega
      · omega
    · omega
theorem circT_len (gs : List (List Int)) (first : Nat) : (circT gs first).length ≤ gs.length + 1 := by
  unfold circT
  split
  · simp
  · have := circF_len gs (distT gs first) first gs.length first [(first : Int)]
    simp only [List.length_cons, List.length_nil] at this
    omega
theorem circleT_any (ts : Tr) (a : Option Addr) (cap : Nat) (pn cn : St) (w : World) (h : SlOf 3 RNod w a ts) (hc : chkT ts = 0) :
    Calls Tryz.prog 20 #[.agg #[.slice a ts.length cap], .string (bs pn), .string (bs cn)] w (GivesI w (circleT ts pn cn)) := by
  have H := Lib.hid h
  have C := Lib.hid hc
  have h120 := (good_of hc).len.2
  clear h hc
  go_enter Tryz.func20, Tryz.ntmps20
  go_wp2_with fail
  (try go_step3)
  (try go_wp2_with fail)
  refine (graph_any ts a cap pn cn _ (H.out.gr RNod.mono ((Gr.refl _).alloc _)) C.out).mono ?_
  intro e w1 hgv
  cases hz : graphT ts pn cn with
  | error er =>
    rw [hz] at hgv
    have er2 : Hid (circleT ts pn cn = .error er) := Lib.hid (by unfold circleT; rw [hz])
    have eb : (er != 0) = true := by rw [bne_iff_ne]; have := graphT_err hz; omega
    obtain ⟨rfl, hg⟩ := hgv
    have G2 : Hid (Gr w w1) := Lib.hid (((Gr.refl _).alloc _).trans hg)
    clear hg hz
    go_wp2_with fail
    refine bodyPost_ret (v := .tuple #[.slice none 0 0, .int .i64 er]) (by simp [results, Tryz.results20, go_sem]) rfl ?_
    rw [er2.out]
    exact ⟨rfl, G2.out⟩
  | ok gs =>
    rw [hz] at hgv
    have OE : Hid (circleT ts pn cn = .ok (bestT gs)) := Lib.hid (by unfold circleT; rw [hz])
    have gl : gs.length ≤ 120 := by rw [(graph_in hz).2]; exact h120
    have IG : Hid (InG gs.length gs) := Lib.hid (by rw [(graph_in hz).2]; exact (graph_in hz).1)
    have RW := Lib.hid (graph_row (good_of C.out) hz)
    obtain ⟨GB, vs, rfl, hga, hgb, hg⟩ := hgv
    have G2 : Hid (Gr w w1) := Lib.hid (((Gr.refl _).alloc _).trans hg)
    have GA := Lib.hid hga
    clear hg hz hga hgb
    go_wp2_with fail
    (try go_step3)
    (try go_wp2_with fail)
    go_loopw [10, 25] (fun sl i wr => ∃ k : Nat, k ≤ gs.length ∧ i = .int .i64 k ∧ ∃ b : List Int, Hid (b = (List.range k).foldl (bestF gs) []) ∧ wr.ownsRow w.heap.size 3 1 sl b.length (nums b) ∧ (∀ z ∈ b, Wide z) ∧ b.length ≤ 121 ∧ Gr w1 wr) (fun _ i _ => gs.length - (intOf i).toNat)
    case atStart => exact ⟨0, Nat.zero_le _, rfl, [], Lib.hid rfl, World.ownsRow_nil _ _ _ _, fun z h => by simp at h, by simp, Gr.refl _⟩
    case round =>
      obtain ⟨k, hk, rfl, b, HB, how, hwd, hbl, hg⟩ := hrel
      obtain ⟨va, vc, rfl⟩ := owns_slice how
      have OB := Lib.hid how
      have WB := Lib.hid hwd
      have HG := Lib.hid hg
      clear how hwd hg
      by_cases hlt : k < gs.length
      · have hlt2 : (k : Int) < gs.length := by omega
        obtain ⟨c, hc⟩ : ∃ c, circT gs k = c := ⟨_, rfl⟩
        have HC := Lib.hid hc
        have hcl : c.length ≤ 121 := by rw [← hc]; have := circT_len gs k; omega
        have CC := Lib.hid (circle_any' gs k GB _ vs wr (GA.out.gr HG.out) IG.out hlt gl RW.out)
        rw [hc] at CC
        have gk0 : wr.cell? ⟨GB, 0, none⟩ = wr.cell? ⟨GB, 0, none⟩ := rfl
        clear hc gk0
        go_wp2_with fail
        refine CC.out.mono ?_
        rintro e w6 ⟨v, rfl, hoc, hwc, hg6⟩
        obtain ⟨ca, cc, rfl⟩ := owns_slice hoc
        have OC := Lib.hid hoc
        have WC := Lib.hid hwc
        have G6 := Lib.hid hg6
        clear hoc hwc hg6
        rcases Nat.eq_zero_or_pos c.length with m0 | m0
        · have e1 : decide ((0 : Int) < (c.length : Int)) = false := decide_eq_false (by omega)
          have e2 : ¬ (0 : Int) < (c.length : Int) := by omega
          have KE : Hid ((List.range (k + 1)).foldl (bestF gs) [] = b) := Lib.hid (by rw [bestT_snoc, ← HB.out]; unfold bestF; rw [HC.out, show betterB b c = false by unfold betterB; rw [decide_eq_false (show ¬ 0 < c.length by omega)]; rfl]; rfl)
          go_wp2_with fail
          all_goals go_roundw
          case rel => exact ⟨k + 1, by omega, by go_num, b, Lib.hid KE.out.symm, Gr.owns OB.out G6.out, WB.out, by omega, HG.out.trans G6.out⟩
          case measure => simp [intOf]; omega
        · have e1 : decide ((0 : Int) < (c.length : Int)) = true := decide_eq_true (by omega)
          have e2 : (0 : Int) < (c.length : Int) := by omega
          rcases Nat.eq_zero_or_pos b.length with n0 | n0
          · have e3 : ((b.length : Int) == 0) = true := by rw [beq_iff_eq]; omega
            have KE : Hid ((List.range (k + 1)).foldl (bestF gs) [] = c) := Lib.hid (by rw [bestT_snoc, ← HB.out]; unfold bestF; rw [HC.out, show betterB b c = true by unfold betterB; rw [decide_eq_true m0, decide_eq_true n0]; rfl]; rfl)
            go_wp2_with fail
            all_goals go_roundw
            case rel => exact ⟨k + 1, by omega, by go_num, c, Lib.hid KE.out.symm, owns_low OC.out (G2.out.trans HG.out).size, WC.out, by omega, HG.out.trans G6.out⟩
            case measure => simp [intOf]; omega
          · have e3 : ((b.length : Int) == 0) = false := by rw [beq_eq_false_iff_ne]; omega
            by_cases q : c.length < b.length
            · have e4 : (c.length : Int) < b.length := by omega
              have e5 : decide ((c.length : Int) < b.length) = true := decide_eq_true (by omega)
              have KE : Hid ((List.range (k + 1)).foldl (bestF gs) [] = c) := Lib.hid (by rw [bestT_snoc, ← HB.out]; unfold bestF; rw [HC.out, show betterB b c = true by unfold betterB; rw [decide_eq_true m0, decide_eq_false (show ¬ b.length = 0 by omega), decide_eq_true q]; rfl]; rfl)
              go_wp2_with fail
              all_goals go_roundw
              case rel => exact ⟨k + 1, by omega, by go_num, c, Lib.hid KE.out.symm, owns_low OC.out (G2.out.trans HG.out).size, WC.out, by omega, HG.out.trans G6.out⟩
              case measure => simp [intOf]; omega
            · have e4 : ¬ (c.length : Int) < b.length := by omega
              have e5 : decide ((c.length : Int) < b.length) = false := decide_eq_false (by omega)
              have KE : Hid ((List.range (k + 1)).foldl (bestF gs) [] = b) := Lib.hid (by rw [bestT_snoc, ← HB.out]; unfold bestF; rw [HC.out, show betterB b c = false by unfold betterB; rw [decide_eq_true m0, decide_eq_false (show ¬ b.length = 0 by omega), decide_eq_false q]; rfl]; rfl)
              go_wp2_with fail
              all_goals go_roundw
              case rel => exact ⟨k + 1, by omega, by go_num, b, Lib.hid KE.out.symm, Gr.owns OB.out G6.out, WB.out, by omega, HG.out.trans G6.out⟩
              case measure => simp [intOf]; omega
      · have hkk : k = gs.length := by omega
        have R : Hid (circleT ts pn cn = .ok b) := Lib.hid (by rw [OE.out, HB.out, hkk]; rfl)
        clear hkk
        go_wp2_with fail
        (try rw [Exit.noGoto_ret])
        refine bodyPost_ret (v := .tuple #[.slice va b.length vc, .int .i64 0]) (by simp [results, Tryz.results20, go_sem]) rfl ?_
        rw [R.out]
        exact ⟨_, rfl, OB.out, WB.out, G2.out.trans HG.out⟩
end Go.Proofs.YtdjhnfopdlgliaaGreat

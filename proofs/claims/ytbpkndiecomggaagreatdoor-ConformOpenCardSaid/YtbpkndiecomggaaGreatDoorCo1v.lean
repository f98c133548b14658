/- Lemmas and contracts for the proof of ConformOpen (several texts in one, printed by wip/tools/pack.py): WeC WdB WeD WeE WdT. -/
import Derived.Test.YtbpkndiecomggaaGreatDoorCo1u
import Derived.Test.YtbpkndiecomggaaGreatDoorCo1t
import Derived.Test.YtbpkndiecomggaaGreatDoorCo1o
import Derived.WalkMore
import Derived.HandedShaped
import Derived.Shelf.Vars
import Derived.Test.YtbpkndiecomggaaGreatDoorRows
import Derived.Stop.LaidErr
import Derived.LaidMore
import Derived.Stop.Joined
set_option maxRecDepth 100000
set_option maxHeartbeats 16000000
set_option linter.unusedVariables false
set_option linter.unusedSimpArgs false
namespace Go.Proofs.YtbpkndiecomggaaGreatDoor
open Go.RowKit
open Classical
theorem governed_any (ts : Tr) (ta : Option Addr) (tc k : Nat) (l : List Sch) (sa : Option Addr) (sc : Nat) (w : World) (h : SlOf 3 RNod w ta ts) (hc : chkT ts = 0) (hk : k < ts.length) (hs : SlOf 3 RSch w sa l) (hl : SchGood l) (hM : MaxV w) :
    Calls Tryz.prog 21 #[.agg #[.slice ta ts.length tc], .slice sa l.length sc, .int .i64 (k : Int)] w (Grows w (govV (govP (nd ts k) l))) := by
  have H := Lib.hid h
  have HC := Lib.hid hc
  have HM := Lib.hid hM
  have HS := Lib.hid hs
  have HL := Lib.hid hl
  have HK := Lib.hid hk
  have GT := Lib.hid (good_of hc)
  clear h hc hM hs hl
  obtain ⟨P0, hP0⟩ : ∃ P : Ending → World → Prop, P = Grows w (govV (govP (nd ts k) l)) := ⟨_, rfl⟩
  rw [← hP0]
  have HP0 := Lib.hid hP0
  clear hP0
  go_enter Tryz.func21, Tryz.ntmps21
  go_upto_region 1 with (fail)
  have RT := Lib.hid (Row.new w #[.slice ta ts.length tc] 29)
  obtain ⟨W, hW⟩ : ∃ W : World, Hid (W = w.alloc (.cells #[.slice ta ts.length tc] 29)) := ⟨_, Lib.hid rfl⟩
  have GW : Hid (Gr w W) := Lib.hid (by rw [hW.out]; exact (Gr.refl _).alloc _)
  rw [← hW.out] at RT ⊢
  obtain ⟨PT, hPT⟩ : ∃ N : Nat, Hid (w.heap.size = N) := ⟨_, Lib.hid rfl⟩
  rw [hPT.out] at RT ⊢
  clear hW hPT
  have TC := treeCheck_any ts ta tc W (H.out.gr RNod.mono GW.out) (by unfold Fit; have := GT.out.len.2; omega)
  rw [HC.out] at TC
  have TC := Lib.hid TC
  have x0 := RT.out.cell 0 (by simp)
  simp only [List.getElem_cons_zero] at x0
  have hx := has_of_cell x0
  go_wp2_with fail
  refine TC.out.mono ?_
  rintro e w1 ⟨rfl, hg1⟩
  have G1 := Lib.hid (GW.out.trans hg1)
  have RT1 := Lib.hid (RT.out.gr hg1)
  clear hg1 TC x0 hx
  have SCK := check_any l sa sc w1 (HS.out.giC G1.out) HL.out.ok.1 HL.out.sml
  rw [HL.out.chk] at SCK
  have SCK := Lib.hid SCK
  go_wp2_with fail
  refine SCK.out.mono ?_
  rintro e w2 ⟨rfl, hg2⟩
  have G2 := Lib.hid (G1.out.trans hg2)
  have RT2 := Lib.hid (RT1.out.gr hg2)
  clear hg2 SCK
  have NOA := GT.out.nodOk hk
  obtain ⟨b, o, pa, pc, rfl, c0, c1, c2, hps, -, -, -⟩ := nods_at H.out k hk
  replace c0 := cell_gr G2.out c0
  replace c1 := cell_gr G2.out c1
  replace c2 := cell_gr G2.out c2
  have EQ := Lib.hid (nd_get hk)
  obtain ⟨n, hn⟩ : ∃ n, n = List.get ts ⟨k, hk⟩ := ⟨_, rfl⟩
  have hn2 : ts[k]'hk = n := hn.symm
  rw [hn2] at NOA c0 c1 c2 hps EQ
  have NO := Lib.hid NOA
  have PS := Lib.hid hps
  obtain ⟨m, hm⟩ : ∃ m : Nat, Hid (ts.length = m) := ⟨_, Lib.hid rfl⟩
  rw [hm.out] at RT2 ⊢
  have km : (k : Int) < (m : Int) := by have := HK.out; have := hm.out; omega
  have kd1 : decide ((k : Int) < 0) = false := by simp
  have kd2 : decide ((m : Int) ≤ (k : Int)) = false := by simp; omega
  have x0 := RT2.out.cell 0 (by simp)
  simp only [List.getElem_cons_zero] at x0
  have hx := has_of_cell x0
  have hh := has_of_cell c0
  clear NOA hk hn hn2 hps
  go_wp2_with fail
  refine (gov_any n pa pc l sa sc w2 (PS.out.gr RPrp.mono G2.out) NO.out (HM.out.gr G2.out) (HS.out.giC G2.out) HL.out.ok.1).mono ?_
  rintro e w3 ⟨rfl, hg3⟩
  have G3 := Lib.hid (G2.out.trans hg3)
  have EV : Hid (govV (govP n l) = .tuple #[.int .i64 (((govP n l).getD 0 : Nat) : Int), .bool (govP n l).isSome]) := Lib.hid rfl
  rw [EV.out]
  clear hg3 x0 hx hh c0 c1 c2
  go_wp2_with fail
  rw [HP0.out, EQ.out]
  exact ⟨rfl, G3.out⟩
theorem schemaOf_any (l : List Sch) (sa : Option Addr) (sc : Nat) (o : Option Nat) (w : World) (hs : SlOf 3 RSch w sa l) (ho : ∀ j, o = some j → j < l.length) :
    Calls Tryz.prog 22 #[.slice sa l.length sc, .int .i64 ((o.getD 0 : Nat) : Int), .bool o.isSome] w (Grows w (.string (bs (match o with | none => [] | some j => (l.getD j default).comp)))) := by
  cases o with
  | none =>
    simp only [Option.getD_none, Option.isSome_none]
    go_enter Tryz.func22, Tryz.ntmps22
    go_wp2_with fail
    go_ret
    exact ⟨rfl, Gr.refl _⟩
  | some j =>
    have hj := ho j rfl
    have e : l.getD j default = l[j] := by rw [List.getD_eq_getElem?_getD, List.getElem?_eq_getElem hj]; rfl
    obtain ⟨b, o, pa, pc, rfl, c0, c1, c2, -⟩ := schs_at hs j hj
    dsimp only
    rw [e]
    simp only [Option.getD_some, Option.isSome_some]
    have hh := has_of_cell c0
    obtain ⟨c, hc⟩ : ∃ c, l[j].comp = c := ⟨_, rfl⟩
    rw [hc] at c0 ⊢
    have ji : (j : Int) < (l.length : Int) := by omega
    clear e hc c1 c2
    go_enter Tryz.func22, Tryz.ntmps22
    go_wp2_with fail
    go_ret
    exact ⟨rfl, Gr.refl _⟩
theorem vio_small {ts : Tr} {l : List Sch} {a : Nat} (h : VT ts) (hr : ∀ s ∈ l, s.rules.length ≤ a) {k m : Nat} (hk : k ≤ ts.length) (hm : ts.length ≤ m) : (vioF ts l k).length ≤ m * (a + 12 + 1) := by
  have := vioF_few (ts := ts) (l := l) (a := a) (b := 12) hr (fun i hi => (h.prp i hi).len) k hk
  exact Nat.le_trans this (Nat.mul_le_mul_right _ (by omega))
theorem schemaOf_sc {ts : Tr} {k : Nat} (l : List Sch) (va : Option Addr) (vc : Nat) (w : World) (hs : SlOf 3 RSch w va l) :
    Calls Tryz.prog 22 #[.slice va l.length vc, .int .i64 (((govP (nd ts k) l).getD 0 : Nat) : Int), .bool (govP (nd ts k) l).isSome] w (Grows w (.string (bs (scO ts l k)))) := by
  have hj := fun j (e : govP (nd ts k) l = some j) => govF_lt (l := l) (cs := compP (nd ts k)) e
  unfold scO
  generalize govP (nd ts k) l = o at hj ⊢
  cases o with
  | none => exact schemaOf_any l va vc none w hs (fun j e => by cases e)
  | some j => exact schemaOf_any l va vc (some j) w hs hj
theorem openT {P0 : Ending → World → Prop} {nm : Bool} {b n0 PB k m tc vc ll base : Nat} {ta va : Option Addr} {l : List Sch} {ms : List NM} {w W : World} {s0 s2 s3 s4 s10 s11 s12 s13 s14 s15 s16 s17 s18 s19 s20 s21 s22 s23 s24 s25 s26 s27 s28 s29 s30 s31 s32 s33 s34 s35 s36 s37 s38 s39 s40 s41 s42 s43 s44 s45 s46 s47 s48 s49 s50 s51 s52 s53 s54 s55 s56 s57 s58 s59 s60 s61 s62 s63 s64 s65 s66 s67 s68 s69 s70 s71 s72 s73 s74 s75 s76 s77 s78 s79 s80 s81 s82 s83 s84 s85 s86 s87 s88 s89 s90 s91 s92 s93 s94 s95 s96 s97 s98 s99 s100 s101 s102 s103 s104 s105 s106 s107 s108 s109 s110 s111 s112 s113 s114 s115 s116 s117 s118 s119 : Value}
    (hP0 : Hid (P0 = Grows w (.bool true))) (HT : Hid (Tp W b n0)) (RT : Hid (Row W PB 29 [.slice ta m tc])) (NBX : Hid (PB ≠ b ∧ b < base ∧ base ≤ W.heap.size ∧ (b < W.heap.size ∧ PB < W.heap.size))) (LN : Hid ((ms.map NM.n).length = m)) (VBX : Hid (VB (ms.map NM.n))) (KK : Hid (k < (ms.map NM.n).length)) (TR : Hid (TrAt base W (.slice ta m tc) ms)) (M7 : Hid (1 ≤ m ∧ m ≤ 6))
    (GR : Hid (∀ W2, Mv b n0 W W2 → Gr w W2)) (SC : Hid (∀ W2, Mv b n0 W W2 → SlOf 3 RSch W2 va l)) (hll : Hid (l.length = ll)) (SG : Hid (SchGood l)) (GDD : Hid (∀ s ∈ l, GoodD s)) (HM : Hid (MaxV w)) (HV : Hid (StdV w)) :
    (tl 7 Tryz.f5).wp Tryz.prog (bodyPost Tryz.prog Tryz.f5 P0) { tmps := #[s0, .bool nm, s2, s3, s4, .pointer (some ⟨b, 0, none⟩), .slice va ll vc, .pointer (some ⟨PB, 0, none⟩), .int .i64 (k : Int), .string (bs (pO nm)), s10, s11, s12, s13, s14, s15, s16, s17, s18, s19, s20, s21, s22, s23, s24, s25, s26, s27, s28, s29, s30, s31, s32, s33, s34, s35, s36, s37, s38, s39, s40, s41, s42, s43, s44, s45, s46, s47, s48, s49, s50, s51, s52, s53, s54, s55, s56, s57, s58, s59, s60, s61, s62, s63, s64, s65, s66, s67, s68, s69, s70, s71, s72, s73, s74, s75, s76, s77, s78, s79, s80, s81, s82, s83, s84, s85, s86, s87, s88, s89, s90, s91, s92, s93, s94, s95, s96, s97, s98, s99, s100, s101, s102, s103, s104, s105, s106, s107, s108, s109, s110, s111, s112, s113, s114, s115, s116, s117, s118, s119], defers := [] } W := by
  simp only [tl, Tryz.f5, Option.map_some, Option.getD_some, sndN]
  have HP0 : Hid (P0 = Grows w (.bool true)) := hP0
  have m7 := M7.out
  obtain ⟨s, hps, _⟩ := VBX.out.v.pathEx KK.out
  refine wp_seq ?_
  refine wp_code_eq (c := Code.region 8 (regIn 8 Tryz.f5) true) (by kernel_rfl) (opn8 (wr := W) (ms := ms) (s := s) (base := base) HT.out RT.out NBX.out LN.out VBX.out.v KK.out hps (pO_names nm) TR.out ?_)
  intro t10 t11 t32 t33 t34 t35 t36 t37 t38 t39 t40 t41 t42 wx ⟨v, B, e11, e10, hB, hrb, hsv⟩ hmx hrx
  obtain ⟨z, m2, hz, htr2, hts2⟩ := hsv
  obtain ⟨ya, yc, rfl⟩ := owns_slice htr2.own
  subst e11
  subst e10
  have GX0 : Hid (Gr w wx) := Lib.hid (GR.out wx hmx)
  have TS2 : Hid (m2.map NM.n = tsO (ms.map NM.n) k nm z) := Lib.hid hts2
  have X1 : Hid (SlOf 3 RNod wx ta (ms.map NM.n)) := Lib.hid (TR.out.mv NBX.out.2.1 hmx).sl.2
  have Y1 : Hid (SlOf 3 RNod wx ya (m2.map NM.n)) := Lib.hid htr2.sl.2
  have RBX := Lib.hid hrb
  have RX := Lib.hid hrx
  have SS1 : Hid (SlOf 3 RSch wx va l) := Lib.hid (SC.out wx hmx)
  have VT2 : Hid (VT (m2.map NM.n)) := Lib.hid (by
    rw [TS2.out]
    exact VT_set VBX.out.v KK.out (PV_put (VBX.out.v.prp k KK.out) (pO_names nm) (by show z.length ≤ 256; omega)))
  have CH1 := Lib.hid (chk_V VBX.out.v)
  have CH2 := Lib.hid (chk_V VT2.out)
  have E2 : Hid (m2.length = (m2.map NM.n).length) := Lib.hid (by rw [List.length_map])
  rw [E2.out] at RBX
  obtain ⟨ts, hts⟩ : ∃ ts, ms.map NM.n = ts := ⟨_, rfl⟩
  obtain ⟨ts2, hts3⟩ : ∃ ts, m2.map NM.n = ts := ⟨_, rfl⟩
  rw [hts] at LN VBX KK TS2 X1 CH1
  rw [hts3] at TS2 Y1 VT2 CH2 RBX
  have L2 : Hid (ts2.length = ts.length) := Lib.hid (by rw [TS2.out]; exact tsO_len)
  clear hz htr2 hts2 hmx hrb hrx hps TR E2 hts hts3 GR SC HT RT NBX
  unfold opn8A
  show Code.wp _ _ _ _ _
  have HM1 := Lib.hid (HM.out.gr GX0.out)
  have HV1 := Lib.hid (HV.out.gr GX0.out)
  have B1 : Hid ((vioT ts l).length ≤ 96) := Lib.hid (vio_small (a := 3) (m := 6) VBX.out.v (fun s hs => (GDD.out s hs).few) (Nat.le_refl _) (by rw [LN.out]; omega))
  have B2 : Hid ((vioT ts2 l).length ≤ 96) := Lib.hid (vio_small (a := 3) (m := 6) VT2.out (fun s hs => (GDD.out s hs).few) (Nat.le_refl _) (by rw [L2.out, LN.out]; omega))
  obtain ⟨mm2, hm2⟩ : ∃ N : Nat, Hid (ts2.length = N) := ⟨_, Lib.hid rfl⟩
  have V1 := violations_any ts ta tc l va vc wx X1.out CH1.out SS1.out SG.out HM1.out HV1.out (by have := B1.out; omega)
  rw [LN.out, hll.out] at V1
  have V1 := Lib.hid V1
  rw [hm2.out] at RBX
  have x0 := RX.out.cell 0 (by simp)
  simp only [List.getElem_cons_zero] at x0
  have hx := has_of_cell x0
  go_wp2_with fail
  refine V1.out.mono ?_
  rintro e w5 ⟨v1, rfl, hv1, hg5⟩
  obtain ⟨a1, c1, rfl⟩ := hv1.form
  have G5 := Lib.hid hg5
  have RX5 := Lib.hid (RX.out.gr hg5)
  have RB5 := Lib.hid (RBX.out.gr hg5)
  clear hv1 hg5 V1 x0 hx
  have V2 := violations_any ts2 ya yc l va vc w5 (Y1.out.gr RNod.mono G5.out) CH2.out (SS1.out.giC G5.out) SG.out (HM1.out.gr G5.out) (HV1.out.gr G5.out) (by have := B2.out; omega)
  rw [hm2.out, hll.out] at V2
  have V2 := Lib.hid V2
  have x0 := RB5.out.cell 0 (by simp)
  simp only [List.getElem_cons_zero] at x0
  have hx := has_of_cell x0
  go_wp2_with fail
  refine V2.out.mono ?_
  rintro e w6 ⟨v2, rfl, hv2, hg6⟩
  obtain ⟨a2, c2, rfl⟩ := hv2.form
  have G6 := Lib.hid (G5.out.trans hg6)
  have RX6 := Lib.hid (RX5.out.gr hg6)
  have RB6 := Lib.hid (RB5.out.gr hg6)
  clear hv2 hg6 V2 x0 hx
  obtain ⟨n1, hn1⟩ : ∃ N : Nat, Hid ((vioT ts l).length = N) := ⟨_, Lib.hid rfl⟩
  obtain ⟨n2, hn2⟩ : ∃ N : Nat, Hid ((vioT ts2 l).length = N) := ⟨_, Lib.hid rfl⟩
  have N97 : Hid (n1 ≤ 96 ∧ n2 ≤ 96) := Lib.hid ⟨by rw [← hn1.out]; exact B1.out, by rw [← hn2.out]; exact B2.out⟩
  rw [hn1.out, hn2.out]
  have GC := governed_any ts ta tc k l va vc w6 (X1.out.gr RNod.mono G6.out) CH1.out KK.out (SS1.out.giC G6.out) SG.out (HM1.out.gr G6.out)
  rw [LN.out, hll.out] at GC
  have GC := Lib.hid GC
  have x0 := RX6.out.cell 0 (by simp)
  simp only [List.getElem_cons_zero] at x0
  have hx := has_of_cell x0
  go_wp2_with fail
  refine GC.out.mono ?_
  rintro e w7 ⟨rfl, hg7⟩
  have G7 := Lib.hid (G6.out.trans hg7)
  have RB7 := Lib.hid (RB6.out.gr hg7)
  have Y7 : Hid (SlOf 3 RNod w7 ya ts2) := Lib.hid (Y1.out.gr RNod.mono G7.out)
  have SS7 : Hid (SlOf 3 RSch w7 va l) := Lib.hid (SS1.out.giC G7.out)
  have HM7 := Lib.hid (HM1.out.gr G7.out)
  have HV7 := Lib.hid (HV1.out.gr G7.out)
  have GW : Hid (Gr w w7) := Lib.hid (GX0.out.trans G7.out)
  have GX : Hid (Gr w7 w7) := Lib.hid (Gr.refl _)
  have AW := Lib.hid (fun W2 (hg : Gr w7 W2) => awake10_any W2 (HM7.out.gr hg) (HV7.out.gr hg))
  clear hg7 x0 hx GC RX6 RB6
  have y0 := RB7.out.cell 0 (by simp)
  simp only [List.getElem_cons_zero] at y0
  have hy := has_of_cell y0
  obtain ⟨sco, hsco⟩ : ∃ sco, scO ts l k = sco := ⟨_, rfl⟩
  have SCO := Lib.hid hsco
  have SOF : ∀ W2, Gr w7 W2 → Calls Tryz.prog 22 #[.slice va ll vc, .int .i64 (((govP (nd ts k) l).getD 0 : Nat) : Int), .bool (govP (nd ts k) l).isSome] W2 (Grows W2 (.string (bs sco))) := fun W2 hg => by
    have q := schemaOf_sc (ts := ts) (k := k) l va vc W2 (SS7.out.giC hg)
    rw [hsco, hll.out] at q
    exact q
  clear hsco
  obtain ⟨gv, hgv⟩ : ∃ gv, govP (nd ts k) l = gv := ⟨_, rfl⟩
  have GV := Lib.hid hgv
  have GLT := fun j (e : gv = some j) => govF_lt (l := l) (cs := compP (nd ts k)) (k := j) (by show govP (nd ts k) l = _; rw [hgv, e])
  rw [hgv] at SOF ⊢
  clear hgv
  cases gv with
  | none =>
    have SO := Lib.hid SOF
    simp only [Option.getD_none, Option.isSome_none] at SO
    have ev : govV none = .tuple #[.int .i64 0, .bool false] := rfl
    rw [ev]
    clear ev SOF GLT
    cases nm with
    | false =>
      have ML : Hid (moreO ts l k false = false) := Lib.hid (by unfold moreO; rw [GV.out])
      have OL := open_len (z := z) (nm := false) GDD.out VBX.out.x KK.out
      rw [ML.out, if_neg (by simp)] at OL
      have OH := open_has (z := z) (nm := false) GDD.out VBX.out.x KK.out
      rw [ML.out] at OH
      have N2 : Hid (n1 = n2) := Lib.hid (by rw [← hn2.out, ← hn1.out, TS2.out]; exact OL.symm)
      have HD := Lib.hid (fun W2 (hg : Gr w7 W2) => (by
        have q := holds_any ts2 ya yc l va vc ⟨6, k, scO ts l k, exS⟩ W2 (Y7.out.gr RNod.mono hg) CH2.out (SS7.out.giC hg) SG.out (HM7.out.gr hg) (HV7.out.gr hg) (by rw [hn2.out]; have := N97.out; omega)
        rw [hm2.out, hll.out, TS2.out] at q
        rw [OH, SCO.out] at q
        exact q : Calls Tryz.prog 12 #[.agg #[.slice ya mm2 yc], .slice va ll vc, .agg #[.int .i64 6, .int .i64 (k : Int), .string (bs sco), .string (bs exS)]] W2 (Grows W2 (.bool false))))
      obtain rfl := N2.out
      have n96 : n1 ≤ 112 := by have := N97.out; omega
      have w9 : IntKind.i64.wrap ((n1 : Int) + 0) = (n1 : Int) := by rw [Int.add_zero]; exact Go.IntWalk.i64_in _ (by omega)
      clear OL OH
      go_wp2_with fail
      refine wp_region_grows (by kernel_rfl) (by kernel_rfl) ?_
      repeat (go_big_quiet_step (first | (go_at_call 22; exact calls_grows (SO.out _ (by first | exact GX.out | exact GX.out.drewN _ | exact GX.out.xt _ _))) | (go_at_call 12; exact calls_grows (HD.out _ (by first | exact GX.out | exact GX.out.drewN _ | exact GX.out.xt _ _))) | (go_at_call 13; exact calls_grows (AW.out _ (by first | exact GX.out | exact GX.out.drewN _ | exact GX.out.xt _ _)))))
      refine wpQuiet_nil ?_
      rintro _ ⟨⟨O, d9⟩, rfl⟩
      go_wp2_with fail
      rw [HP0.out]
      exact ⟨rfl, (GW.out.trans GX.out).xt _ _⟩
    | true =>
      have ML : Hid (moreO ts l k true = false) := Lib.hid (by unfold moreO; rw [GV.out])
      have OL := open_len (z := z) (nm := true) GDD.out VBX.out.x KK.out
      rw [ML.out, if_neg (by simp)] at OL
      have OH := open_has (z := z) (nm := true) GDD.out VBX.out.x KK.out
      rw [ML.out] at OH
      have N2 : Hid (n1 = n2) := Lib.hid (by rw [← hn2.out, ← hn1.out, TS2.out]; exact OL.symm)
      have HD := Lib.hid (fun W2 (hg : Gr w7 W2) => (by
        have q := holds_any ts2 ya yc l va vc ⟨6, k, scO ts l k, exS⟩ W2 (Y7.out.gr RNod.mono hg) CH2.out (SS7.out.giC hg) SG.out (HM7.out.gr hg) (HV7.out.gr hg) (by rw [hn2.out]; have := N97.out; omega)
        rw [hm2.out, hll.out, TS2.out] at q
        rw [OH, SCO.out] at q
        exact q : Calls Tryz.prog 12 #[.agg #[.slice ya mm2 yc], .slice va ll vc, .agg #[.int .i64 6, .int .i64 (k : Int), .string (bs sco), .string (bs exS)]] W2 (Grows W2 (.bool false))))
      obtain rfl := N2.out
      have n96 : n1 ≤ 112 := by have := N97.out; omega
      have w9 : IntKind.i64.wrap ((n1 : Int) + 0) = (n1 : Int) := by rw [Int.add_zero]; exact Go.IntWalk.i64_in _ (by omega)
      clear OL OH
      go_wp2_with fail
      refine wp_region_grows (by kernel_rfl) (by kernel_rfl) ?_
      repeat (go_big_quiet_step (first | (go_at_call 22; exact calls_grows (SO.out _ (by first | exact GX.out | exact GX.out.drewN _ | exact GX.out.xt _ _))) | (go_at_call 12; exact calls_grows (HD.out _ (by first | exact GX.out | exact GX.out.drewN _ | exact GX.out.xt _ _))) | (go_at_call 13; exact calls_grows (AW.out _ (by first | exact GX.out | exact GX.out.drewN _ | exact GX.out.xt _ _)))))
      refine wpQuiet_nil ?_
      rintro _ ⟨⟨O, d9⟩, rfl⟩
      go_wp2_with fail
      rw [HP0.out]
      exact ⟨rfl, (GW.out.trans GX.out).xt _ _⟩
  | some j =>
    have SO := Lib.hid SOF
    simp only [Option.getD_some, Option.isSome_some] at SO
    have jl := GLT j rfl
    have e : l.getD j default = l[j] := by rw [List.getD_eq_getElem?_getD, List.getElem?_eq_getElem jl]; rfl
    have CLO : Hid ((l.getD j default).closed = l[j].closed) := Lib.hid (by rw [e])
    obtain ⟨sb, so2, ra, rc, rfl, d0, d1, d2, -⟩ := schs_at SS7.out j jl
    have hd := has_of_cell d0
    have ev : govV (some j) = .tuple #[.int .i64 (j : Int), .bool true] := rfl
    rw [ev]
    have jli : (j : Int) < (ll : Int) := by have := hll.out; omega
    have jl2 : decide (ll ≤ j) = false := by simp; omega
    have j0 : decide ((j : Int) < 0) = false := by simp
    clear ev SOF GLT e d2
    obtain ⟨cl, hcl⟩ : ∃ cl : Bool, l[j].closed = cl := ⟨_, rfl⟩
    rw [hcl] at CLO d1
    clear hcl
    cases cl with
    | false =>
      cases nm with
      | false =>
        have ML : Hid (moreO ts l k false = false) := Lib.hid (by unfold moreO; rw [GV.out]; dsimp only; rw [CLO.out]; rfl)
        have OL := open_len (z := z) (nm := false) GDD.out VBX.out.x KK.out
        rw [ML.out, if_neg (by simp)] at OL
        have OH := open_has (z := z) (nm := false) GDD.out VBX.out.x KK.out
        rw [ML.out] at OH
        have N2 : Hid (n1 = n2) := Lib.hid (by rw [← hn2.out, ← hn1.out, TS2.out]; exact OL.symm)
        have HD := Lib.hid (fun W2 (hg : Gr w7 W2) => (by
          have q := holds_any ts2 ya yc l (some ⟨sb, so2, none⟩) vc ⟨6, k, scO ts l k, exS⟩ W2 (Y7.out.gr RNod.mono hg) CH2.out (SS7.out.giC hg) SG.out (HM7.out.gr hg) (HV7.out.gr hg) (by rw [hn2.out]; have := N97.out; omega)
          rw [hm2.out, hll.out, TS2.out] at q
          rw [OH, SCO.out] at q
          exact q : Calls Tryz.prog 12 #[.agg #[.slice ya mm2 yc], .slice (some ⟨sb, so2, none⟩) ll vc, .agg #[.int .i64 6, .int .i64 (k : Int), .string (bs sco), .string (bs exS)]] W2 (Grows W2 (.bool false))))
        obtain rfl := N2.out
        have n96 : n1 ≤ 112 := by have := N97.out; omega
        have w9 : IntKind.i64.wrap ((n1 : Int) + 0) = (n1 : Int) := by rw [Int.add_zero]; exact Go.IntWalk.i64_in _ (by omega)
        clear OL OH
        go_wp2_with fail
        refine wp_region_grows (by kernel_rfl) (by kernel_rfl) ?_
        repeat (go_big_quiet_step (first | (go_at_call 22; exact calls_grows (SO.out _ (by first | exact GX.out | exact GX.out.drewN _ | exact GX.out.xt _ _))) | (go_at_call 12; exact calls_grows (HD.out _ (by first | exact GX.out | exact GX.out.drewN _ | exact GX.out.xt _ _))) | (go_at_call 13; exact calls_grows (AW.out _ (by first | exact GX.out | exact GX.out.drewN _ | exact GX.out.xt _ _)))))
        refine wpQuiet_nil ?_
        rintro _ ⟨⟨O, d9⟩, rfl⟩
        go_wp2_with fail
        rw [HP0.out]
        exact ⟨rfl, (GW.out.trans GX.out).xt _ _⟩
      | true =>
        have ML : Hid (moreO ts l k true = false) := Lib.hid (by unfold moreO; rw [GV.out]; dsimp only; rw [CLO.out]; rfl)
        have OL := open_len (z := z) (nm := true) GDD.out VBX.out.x KK.out
        rw [ML.out, if_neg (by simp)] at OL
        have OH := open_has (z := z) (nm := true) GDD.out VBX.out.x KK.out
        rw [ML.out] at OH
        have N2 : Hid (n1 = n2) := Lib.hid (by rw [← hn2.out, ← hn1.out, TS2.out]; exact OL.symm)
        have HD := Lib.hid (fun W2 (hg : Gr w7 W2) => (by
          have q := holds_any ts2 ya yc l (some ⟨sb, so2, none⟩) vc ⟨6, k, scO ts l k, exS⟩ W2 (Y7.out.gr RNod.mono hg) CH2.out (SS7.out.giC hg) SG.out (HM7.out.gr hg) (HV7.out.gr hg) (by rw [hn2.out]; have := N97.out; omega)
          rw [hm2.out, hll.out, TS2.out] at q
          rw [OH, SCO.out] at q
          exact q : Calls Tryz.prog 12 #[.agg #[.slice ya mm2 yc], .slice (some ⟨sb, so2, none⟩) ll vc, .agg #[.int .i64 6, .int .i64 (k : Int), .string (bs sco), .string (bs exS)]] W2 (Grows W2 (.bool false))))
        obtain rfl := N2.out
        have n96 : n1 ≤ 112 := by have := N97.out; omega
        have w9 : IntKind.i64.wrap ((n1 : Int) + 0) = (n1 : Int) := by rw [Int.add_zero]; exact Go.IntWalk.i64_in _ (by omega)
        clear OL OH
        go_wp2_with fail
        refine wp_region_grows (by kernel_rfl) (by kernel_rfl) ?_
        repeat (go_big_quiet_step (first | (go_at_call 22; exact calls_grows (SO.out _ (by first | exact GX.out | exact GX.out.drewN _ | exact GX.out.xt _ _))) | (go_at_call 12; exact calls_grows (HD.out _ (by first | exact GX.out | exact GX.out.drewN _ | exact GX.out.xt _ _))) | (go_at_call 13; exact calls_grows (AW.out _ (by first | exact GX.out | exact GX.out.drewN _ | exact GX.out.xt _ _)))))
        refine wpQuiet_nil ?_
        rintro _ ⟨⟨O, d9⟩, rfl⟩
        go_wp2_with fail
        rw [HP0.out]
        exact ⟨rfl, (GW.out.trans GX.out).xt _ _⟩
    | true =>
      cases nm with
      | false =>
        have ML : Hid (moreO ts l k false = true) := Lib.hid (by unfold moreO; rw [GV.out]; dsimp only; rw [CLO.out]; rfl)
        have OL := open_len (z := z) (nm := false) GDD.out VBX.out.x KK.out
        rw [ML.out, if_pos rfl] at OL
        have OH := open_has (z := z) (nm := false) GDD.out VBX.out.x KK.out
        rw [ML.out] at OH
        have N2 : Hid (n2 = n1 + 1) := Lib.hid (by rw [← hn2.out, ← hn1.out, TS2.out]; exact OL)
        have HD := Lib.hid (fun W2 (hg : Gr w7 W2) => (by
          have q := holds_any ts2 ya yc l (some ⟨sb, so2, none⟩) vc ⟨6, k, scO ts l k, exS⟩ W2 (Y7.out.gr RNod.mono hg) CH2.out (SS7.out.giC hg) SG.out (HM7.out.gr hg) (HV7.out.gr hg) (by rw [hn2.out]; have := N97.out; omega)
          rw [hm2.out, hll.out, TS2.out] at q
          rw [OH, SCO.out] at q
          exact q : Calls Tryz.prog 12 #[.agg #[.slice ya mm2 yc], .slice (some ⟨sb, so2, none⟩) ll vc, .agg #[.int .i64 6, .int .i64 (k : Int), .string (bs sco), .string (bs exS)]] W2 (Grows W2 (.bool true))))
        obtain rfl := N2.out
        have n96 : n1 ≤ 112 := by have := N97.out; omega
        have he : (((n1 + 1 : Nat) : Int) == (n1 : Int) + 1) = true := by rw [beq_iff_eq]; omega
        have w9 : IntKind.i64.wrap ((n1 : Int) + 1) = (n1 : Int) + 1 := Go.IntWalk.i64_in _ (by omega)
        clear OL OH
        go_wp2_with fail
        refine wp_region_grows (by kernel_rfl) (by kernel_rfl) ?_
        repeat (go_big_quiet_step (first | (go_at_call 22; exact calls_grows (SO.out _ (by first | exact GX.out | exact GX.out.drewN _ | exact GX.out.xt _ _))) | (go_at_call 12; exact calls_grows (HD.out _ (by first | exact GX.out | exact GX.out.drewN _ | exact GX.out.xt _ _))) | (go_at_call 13; exact calls_grows (AW.out _ (by first | exact GX.out | exact GX.out.drewN _ | exact GX.out.xt _ _)))))
        refine wpQuiet_nil ?_
        rintro _ ⟨⟨O, d9⟩, rfl⟩
        go_wp2_with fail
        rw [HP0.out]
        exact ⟨rfl, (GW.out.trans GX.out).xt _ _⟩
      | true =>
        have ML : Hid (moreO ts l k true = false) := Lib.hid (by unfold moreO; rw [GV.out]; dsimp only; rw [CLO.out]; rfl)
        have OL := open_len (z := z) (nm := true) GDD.out VBX.out.x KK.out
        rw [ML.out, if_neg (by simp)] at OL
        have OH := open_has (z := z) (nm := true) GDD.out VBX.out.x KK.out
        rw [ML.out] at OH
        have N2 : Hid (n1 = n2) := Lib.hid (by rw [← hn2.out, ← hn1.out, TS2.out]; exact OL.symm)
        have HD := Lib.hid (fun W2 (hg : Gr w7 W2) => (by
          have q := holds_any ts2 ya yc l (some ⟨sb, so2, none⟩) vc ⟨6, k, scO ts l k, exS⟩ W2 (Y7.out.gr RNod.mono hg) CH2.out (SS7.out.giC hg) SG.out (HM7.out.gr hg) (HV7.out.gr hg) (by rw [hn2.out]; have := N97.out; omega)
          rw [hm2.out, hll.out, TS2.out] at q
          rw [OH, SCO.out] at q
          exact q : Calls Tryz.prog 12 #[.agg #[.slice ya mm2 yc], .slice (some ⟨sb, so2, none⟩) ll vc, .agg #[.int .i64 6, .int .i64 (k : Int), .string (bs sco), .string (bs exS)]] W2 (Grows W2 (.bool false))))
        obtain rfl := N2.out
        have n96 : n1 ≤ 112 := by have := N97.out; omega
        have w9 : IntKind.i64.wrap ((n1 : Int) + 0) = (n1 : Int) := by rw [Int.add_zero]; exact Go.IntWalk.i64_in _ (by omega)
        clear OL OH
        go_wp2_with fail
        refine wp_region_grows (by kernel_rfl) (by kernel_rfl) ?_
        repeat (go_big_quiet_step (first | (go_at_call 22; exact calls_grows (SO.out _ (by first | exact GX.out | exact GX.out.drewN _ | exact GX.out.xt _ _))) | (go_at_call 12; exact calls_grows (HD.out _ (by first | exact GX.out | exact GX.out.drewN _ | exact GX.out.xt _ _))) | (go_at_call 13; exact calls_grows (AW.out _ (by first | exact GX.out | exact GX.out.drewN _ | exact GX.out.xt _ _)))))
        refine wpQuiet_nil ?_
        rintro _ ⟨⟨O, d9⟩, rfl⟩
        go_wp2_with fail
        rw [HP0.out]
        exact ⟨rfl, (GW.out.trans GX.out).xt _ _⟩
theorem open_walk (a : Option Addr) (len cap : Nat) (zs : List Int) (nm : Bool) (w : World) (h : RowIn w a len cap zs) (hM : MaxV w) (hV : StdV w) :
    Calls Tryz.prog 5 #[.slice a len cap, .bool nm] w (Grows w (.bool true)) := by
  have H := Lib.hid h
  have HM := Lib.hid hM
  have HV := Lib.hid hV
  clear h hM hV
  obtain ⟨P0, hP0⟩ : ∃ P : Ending → World → Prop, P = Grows w (.bool true) := ⟨_, rfl⟩
  rw [← hP0]
  have HP0 := Lib.hid hP0
  clear hP0
  go_enter Tryz.func5, Tryz.ntmps5
  refine wp_cut 7 fun TT hT => ?_
  simp only [cutAt]
  go_wp2_with fail
  refine (newTape_any w a len cap zs H.out).mono ?_
  rintro e w1 ⟨b, n0, rfl, ht, hg, hb, _⟩
  have TP := Lib.hid (show Tp w1 b n0 from ⟨0, ht⟩)
  have G1 := Lib.hid hg
  have BW := Lib.hid hb
  have BL : Hid (b < w1.heap.size) := Lib.hid TP.out.has
  clear ht hg hb
  go_wp2_with fail
  refine (schemas_any w1 b n0 TP.out).mono ?_
  rintro e w2 ⟨v, out, rfl, hoa, hsub, hgo, hmv⟩
  obtain ⟨va, vc, rfl⟩ := owns_slice hoa.own
  have M2 := Lib.hid hmv
  have BC := Lib.hid (board_any 5 b n0 w1.heap.size out va vc w2 (hmv.tp TP.out) (by omega) hoa hgo BL.out)
  have OM : Hid (∀ W, Mv b n0 w2 W → SlOf 3 RSch W va (out.map SM.sch)) := Lib.hid fun W hm => (hoa.mv (fun s hs => (hgo s hs).hi) BL.out hm).sl.2
  have SUB : Hid (((out.map SM.sch).map Sch.comp).Sublist compsL) := Lib.hid (by rw [comp_sch]; exact hsub)
  have GDD : Hid (∀ s ∈ out.map SM.sch, GoodD s) := Lib.hid (fun s hs => by
    obtain ⟨m, hm, rfl⟩ := List.mem_map.1 hs
    exact good_data (hgo m hm) (hoa.rls m hm))
  have SG := Lib.hid (good10 SUB.out GDD.out)
  have LN : Hid (out.length = (out.map SM.sch).length) := Lib.hid (by rw [List.length_map])
  clear hoa hsub hgo hmv
  go_wp2_with fail
  refine BC.out.mono ?_
  rintro e w3 ⟨v, ms, rfl, htr, hvt, hml, hm3⟩
  obtain ⟨ta, tc, rfl⟩ := owns_slice htr.own
  have M3 := Lib.hid hm3
  have VBX := Lib.hid hvt
  have TR3 := Lib.hid htr
  have LN3 : Hid ((ms.map NM.n).length = ms.length) := Lib.hid (by rw [List.length_map])
  have M7 : Hid (1 ≤ ms.length ∧ ms.length ≤ 6) := Lib.hid ⟨by have := hvt.v.pos; rw [List.length_map] at this; exact this, by omega⟩
  have M3 := Lib.hid hm3
  have B2 : Hid (b < w2.heap.size) := Lib.hid (by have := M2.out.size; have := BL.out; omega)
  rw [LN.out]
  obtain ⟨l, hl⟩ : ∃ l, out.map SM.sch = l := ⟨_, rfl⟩
  rw [hl] at OM SG GDD ⊢
  obtain ⟨ll, hll⟩ : ∃ N : Nat, Hid (l.length = N) := ⟨_, Lib.hid rfl⟩
  rw [hll.out]
  clear BC htr hvt hml hm3 hl SUB
  obtain ⟨m, hm⟩ : ∃ N : Nat, Hid (ms.length = N) := ⟨_, Lib.hid rfl⟩
  rw [hm.out] at TR3 LN3 M7 ⊢
  go_upto_region 4 with (fail)
  have RT0 := Lib.hid (Row.new w3 #[.slice ta m tc] 29)
  obtain ⟨W4, hW4⟩ : ∃ W : World, Hid (W = w3.alloc (.cells #[.slice ta m tc] 29)) := ⟨_, Lib.hid rfl⟩
  have m4 : Mv b n0 w3 W4 := by rw [hW4.out]; exact (Mv.refl (M3.out.tp (M2.out.tp TP.out))).alloc _
  have M4 := Lib.hid (M3.out.trans B2.out m4)
  have R0 : Hid (w3.heap.size < W4.heap.size) := Lib.hid (by rw [hW4.out]; exact RT0.out.has)
  rw [← hW4.out] at RT0 ⊢
  obtain ⟨PB, hPB⟩ : ∃ N : Nat, Hid (w3.heap.size = N) := ⟨_, Lib.hid rfl⟩
  have PB2 : Hid (w2.heap.size ≤ PB) := Lib.hid (by rw [← hPB.out]; exact M3.out.size)
  rw [hPB.out] at RT0 R0 ⊢
  have B3 : Hid (b < w3.heap.size) := Lib.hid (by have := M3.out.size; have := B2.out; omega)
  clear hW4 hPB
  have x0 := RT0.out.cell 0 (by simp)
  simp only [List.getElem_cons_zero] at x0
  have hx := has_of_cell x0
  go_wp2_with fail
  refine (nM_any _ b n0 (m : Int) (M4.out.tp (M2.out.tp TP.out)) (by have := M7.out; omega) (by have := M7.out; omega)).mono ?_
  rintro e w5 ⟨k, rfl, ⟨k0, k1⟩, hm5⟩
  obtain ⟨k, rfl⟩ := Int.eq_ofNat_of_zero_le k0
  have KK : Hid (k < (ms.map NM.n).length) := Lib.hid (by rw [LN3.out]; omega)
  have M5 := Lib.hid (M4.out.trans B2.out hm5)
  have RT := Lib.hid (hm5.row RT0.out (by have := PB2.out; have := B2.out; omega))
  have HT := Lib.hid (M5.out.tp (M2.out.tp TP.out))
  have m45 : Mv b n0 w3 w5 := m4.trans B3.out hm5
  have TR := Lib.hid (TR3.out.mv B2.out m45)
  have B5 : Hid (b < w5.heap.size) := Lib.hid HT.out.has
  have NBX : Hid (PB ≠ b ∧ b < w2.heap.size ∧ w2.heap.size ≤ w5.heap.size ∧ (b < w5.heap.size ∧ PB < w5.heap.size)) := Lib.hid ⟨by have := PB2.out; have := B2.out; omega, B2.out, M5.out.size, B5.out, RT.out.has⟩
  have GR : Hid (∀ W2, Mv b n0 w5 W2 → Gr w W2) := Lib.hid fun W2 hm => (M2.out.trans BL.out (M5.out.trans B2.out hm)).out G1.out BW.out
  have SC : Hid (∀ W2, Mv b n0 w5 W2 → SlOf 3 RSch W2 va l) := Lib.hid fun W2 hm => OM.out W2 (M5.out.trans B2.out hm)
  have LM : Hid ((ms.map NM.n).length = m) := Lib.hid (by rw [LN3.out])
  clear k0 k1 hm5 x0 hx m45 m4 TR3 RT0 R0 M4 M5 OM B5 TP M2 M3 G1 BW BL B2 B3 PB2 LN
  go_wp2_with fail
  · rename_i e
    subst e
    exact wp_at hT (by kernel_rfl) (openT (nm := true) HP0 HT RT NBX LM VBX KK TR M7 GR SC hll SG GDD HM HV)
  · rename_i e
    subst e
    exact wp_at hT (by kernel_rfl) (openT (nm := false) HP0 HT RT NBX LM VBX KK TR M7 GR SC hll SG GDD HM HV)
end Go.Proofs.YtbpkndiecomggaaGreatDoor

set_option linter.unusedVariables false
namespace Go.Proofs.YtbpkndiecomggaaGreatDoor
open Go Go.RowKit
variable {H : Type} {enc : TypeId × Value → H}
theorem handed_shaped_and {a : Assume} {C : Checked} {os : Os} {f : FuncId} {fn : Func} {s : ChangeSpec} {conds : List PathCond} {apart fresh handsOn again : Bool} {X : World → Array Value → Prop}
    (hX : ∀ (w w' : World) (args : Array Value), w.heap = w'.heap → X w args → X w' args)
    (own : ownKnob C.prog.godebug = none) (started : os.Started) (noInit : C.prog.inits.idxOf? f = none) (hfn : C.prog.funcs[f]? = some fn)
    (witness : ∃ (w : World) (tape : Go.Tape) (i : Input), w.os = os ∧ (w.forCall tape i).Shaped C.prog ∧ i.vars = [] ∧ Input.okWide C.prog (w.forCall tape i) .any w.heap.size f i ∧
      ((s.pre enc C.prog fn conds apart (w.forCall tape i).memory i.args ∧ X (w.forCall tape i).memory i.args) ∧ sizedMet enc C.prog fn (OpenSpec.ofChange s) apart (w.forCall tape i).memory i.args) ∧ a.holds C.prog (lone (Frame.enter C.prog f i.args .normal) [] (w.forCall tape i)))
    (contract : ∀ (W : World) (base : Nat) (args : Array Value) (ds gs : List (DataW H)) (before : List MemPlace),
      (∀ (j : Nat) t v, fn.params[j]? = some t → args[j]? = some v → Value.okWide C.prog W .any base t v) →
      DataW.Whole enc C.prog fn.params.toList s.vars apart W args.toList ds gs before → X W args → W.ShapedOpen C.prog →
      Calls C.prog f args W fun e W' => ∃ v, e = .returned v ∧ s.post enc C.prog fn apart fresh handsOn again W args v W') :
    ReturnsInHanded a C os f .any (fun w args => (s.pre enc C.prog fn conds apart w args ∧ X w args) ∧ sizedMet enc C.prog fn (OpenSpec.ofChange s) apart w args) (s.post enc C.prog fn apart fresh handsOn again) := by
  refine returnsInHanded_of_calls own started noInit witness ?_
  intro w tape i _ hsh _ hok hpre hholds
  obtain ⟨_, _, _, fn', hfn', _, _, _, _, hval⟩ := hok
  have e : fn' = fn := Option.some.inj (hfn'.symm.trans hfn)
  subst e
  obtain ⟨⟨⟨ds, gs, before, hw, hc⟩, hx⟩, hz⟩ := hpre
  have hw' := DataW.Whole.of_heap (w' := w.forCall tape i) (by rfl) hw
  refine (contract (w.forCall tape i) w.heap.size i.args ds gs before hval hw' (hX _ _ _ (by rfl) hx) hsh).mono fun e W' ⟨v, he, hp⟩ => ?_
  subst he
  exact ChangeSpec.post_blind hp
theorem cellsStr : Tryz.prog.cellsOf 9 = 1 := by kernel_rfl
theorem stdNamed : Tryz.prog.globalNamed "bringup/conform.standard" = some 0 := by kernel_rfl
theorem tStd : (Tryz.prog.globals[0]?).map (·.type) = some 125 := by kernel_rfl
theorem std_of_laid {W : World} {rest : List (String × DataW Unit)} (h : laidMet Tryz.prog (("bringup/conform.standard", Rows.laid_bringup_conform_standard) :: rest) W) : StdV W := by
  obtain ⟨ps, ⟨g', t', cs, fuel, p, q, hg', ht', hvar, hd, _, _⟩, _⟩ := h
  obtain rfl := Option.some.inj (stdNamed.symm.trans hg')
  obtain rfl := Option.some.inj (tStd.symm.trans ht')
  obtain ⟨xs, m, _, hx, hl, hn, hf⟩ := DataW.trod_array (n := 7) (e := 9) Tryz.underlying125 hd
  have hxs : xs.map (·.1) = stdS.map (fun s => (.lit (.string s) : DataW Unit)) := by
    have := congrArg Prod.fst hx
    exact (DataW.agg.inj this).symm
  intro i hi
  have hi2 : i < xs.length := by rw [hn]; exact hi
  have hfi := hf i hi
  rw [cellsStr, Nat.mul_one, List.getElem?_eq_getElem hi2] at hfi
  obtain ⟨s, hcs, hxi, _⟩ := DataW.trod_string Tryz.underlying9 hfi
  have e1 : (xs.map (·.1))[i]? = some (.lit (.string s.data.toList)) := by
    rw [List.getElem?_map, List.getElem?_eq_getElem hi2, hxi]; rfl
  have hk : i < stdS.length := hi
  rw [hxs, List.getElem?_map, List.getElem?_eq_getElem hk] at e1
  have e2 : stdS[i] = s.data.toList := by
    have := Option.some.inj e1
    simpa using this
  have hv := World.var?_cell stdNamed hvar i
  have e3 : cs.toList[i]? = some (.string s) := by
    have := congrArg (·[0]?) hcs
    simpa [List.getElem?_take, List.getElem?_drop] using this
  rw [hv]
  have e4 : s = bs (stdS[i]) := by rw [e2]; exact bs_of s
  have e5 : cs[i]? = some (.string s) := by simpa using e3
  exact e5.trans (congrArg (fun z => some (Value.string z)) e4)
def Libs (w : World) : Prop := MaxV w ∧ StdV w
theorem libs_of {W : World} (h : laidMetH Tryz.prog Rows.conformUnknownRow.laid W) (hsh : W.ShapedOpen Tryz.prog) : Libs W := by
  rw [MakeChecks.laidMetH_plain _ _ _ (by kernel_rfl)] at h
  refine ⟨?_, std_of_laid h.tail⟩
  exact cell_of_shapedOpen_int (t := 3) (zero := #[.int .i64 0]) hsh (of_decide_eq_true (by kernel_rfl)) (by kernel_rfl) rfl (by kernel_rfl) (by kernel_rfl) Tryz.underlying3
end Go.Proofs.YtbpkndiecomggaaGreatDoor

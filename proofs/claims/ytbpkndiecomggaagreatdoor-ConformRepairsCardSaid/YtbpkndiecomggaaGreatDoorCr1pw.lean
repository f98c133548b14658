/- Lemmas and contracts for the proof of ConformRepairs (several texts in one, printed by wip/tools/pack.py): WfF WdT. -/
import Derived.Test.YtbpkndiecomggaaGreatDoorCr1ps
import Derived.Test.YtbpkndiecomggaaGreatDoorCr1pv
import Derived.HandedShaped
import Derived.Shelf.Vars
import Derived.Test.YtbpkndiecomggaaGreatDoorRows
import Derived.Stop.LaidErr
import Derived.LaidMore
import Derived.Stop.Joined
set_option maxRecDepth 100000
set_option maxHeartbeats 16000000
set_option linter.unusedVariables false
set_option linter.unusedSimpArgs false
namespace Go.Proofs.YtbpkndiecomggaaGreatDoor
open Go.RowKit
open Classical
theorem findC_self {l : List Sch} (h : (l.map Sch.comp).Nodup) {j : Nat} (hj : j < l.length) : findC l (l.getD j default).comp = some j := by
  have e : l.getD j default = l[j] := by rw [List.getD_eq_getElem?_getD, List.getElem?_eq_getElem hj]; rfl
  unfold findC
  rw [e, List.findIdx?_eq_some_iff_getElem]
  refine ⟨hj, by simp, fun i hi => ?_⟩
  have q := nodup_getElem h (k := i) (i := j) hi (by rw [List.length_map]; exact hj)
  rw [List.getElem_map, List.getElem_map] at q
  simpa using q
theorem fit_put {ts : Tr} {r : Rul} {z : St} {k : Nat} (hk : k < ts.length) (hr : ruleP r = true) (hc : r.count ≤ 2) (hh : HanOk ts) (hz : fitP ts r = some z) :
    brkP ts (nd (setN ts k (putP (nd ts k).props ⟨r.name, z⟩)) k) r = 0 ∧ z.length ≤ 100 := by
  rw [nd_set_same hk]
  exact fit_ok hr hc hh hz (valP_puts ⟨r.name, z⟩ _)
def SetI (ts : Tr) (r : Rul) (k m PZ ix : Nat) (pr0 : St) (ta : Option Addr) (tc i : Nat) (wr : World) : Prop :=
  (i ≤ ix ∧ Row wr PZ 29 [.slice ta m tc]) ∨ (ix < i ∧ ∃ (z : St) (za : Option Addr) (zc : Nat) (zs : Tr), fitP ts r = some z ∧ zs = setN ts k (putP (nd ts k).props ⟨pr0, z⟩) ∧ SlOf 3 RNod wr za zs ∧ Row wr PZ 29 [.slice za zs.length zc])
theorem SetI.next {ts : Tr} {r : Rul} {k m PZ ix : Nat} {pr0 : St} {ta : Option Addr} {tc i : Nat} {wr w' : World} (h : SetI ts r k m PZ ix pr0 ta tc i wr) (hi : i ≠ ix) (hg : Gr wr w') : SetI ts r k m PZ ix pr0 ta tc (i + 1) w' := by
  rcases h with ⟨h1, h2⟩ | ⟨h1, z, za, zc, zs, h2, h3, h4, h5⟩
  · exact .inl ⟨by omega, h2.gr hg⟩
  · exact .inr ⟨by omega, z, za, zc, zs, h2, h3, h4.gr RNod.mono hg, h5.gr hg⟩
theorem repairs_walk (a : Option Addr) (len cap : Nat) (zs : List Int) (w : World) (h : RowIn w a len cap zs) (hM : MaxV w) (hV : StdV w) :
    Calls Tryz.prog 4 #[.slice a len cap] w (Grows w (.bool true)) := by
  have H := Lib.hid h
  have HM := Lib.hid hM
  have HV := Lib.hid hV
  clear h hM hV
  obtain ⟨P0, hP0⟩ : ∃ P : Ending → World → Prop, P = Grows w (.bool true) := ⟨_, rfl⟩
  rw [← hP0]
  have HP0 := Lib.hid hP0
  clear hP0
  go_enter Tryz.func4, Tryz.ntmps4
  refine wp_cut 11 fun TT hT => ?_
  simp only [cutAt]
  go_wp2_with fail
  refine (newTape_any w a len cap zs H.out).mono ?_
  rintro e w1 ⟨b, n0, rfl, ht, hg, hb, _⟩
  have TP := Lib.hid (show Tp w1 b n0 from ⟨0, ht⟩)
  have G1 := Lib.hid hg
  have BW := Lib.hid hb
  have BL : Hid (b < w1.heap.size) := Lib.hid TP.out.has
  clear ht hg hb
  go_wp2_with fail
  refine (schemas_any w1 b n0 TP.out).mono ?_
  rintro e w2 ⟨v, out, rfl, hoa, hsub, hgo, hmv⟩
  obtain ⟨va, vc, rfl⟩ := owns_slice hoa.own
  have M2 := Lib.hid hmv
  have BC := Lib.hid (board_any 5 b n0 w1.heap.size out va vc w2 (hmv.tp TP.out) (by omega) hoa hgo BL.out)
  have OM : Hid (∀ W, Mv b n0 w2 W → SlOf 3 RSch W va (out.map SM.sch)) := Lib.hid fun W hm => (hoa.mv (fun s hs => (hgo s hs).hi) BL.out hm).sl.2
  have SUB : Hid (((out.map SM.sch).map Sch.comp).Sublist compsL) := Lib.hid (by rw [comp_sch]; exact hsub)
  have GDD : Hid (∀ s ∈ out.map SM.sch, GoodD s) := Lib.hid (fun s hs => by
    obtain ⟨m, hm, rfl⟩ := List.mem_map.1 hs
    exact good_data (hgo m hm) (hoa.rls m hm))
  have CNT : Hid (∀ s ∈ out.map SM.sch, ∀ r ∈ s.rules, r.count ≤ 2) := Lib.hid (fun s hs r hr => by
    obtain ⟨m, hm, rfl⟩ := List.mem_map.1 hs
    obtain ⟨x, hx, rfl⟩ := List.mem_map.1 hr
    exact ((hgo m hm).nam x hx).2)
  have SG := Lib.hid (good10 SUB.out GDD.out)
  have LN : Hid (out.length = (out.map SM.sch).length) := Lib.hid (by rw [List.length_map])
  clear hoa hsub hgo hmv
  go_wp2_with fail
  refine BC.out.mono ?_
  rintro e w3 ⟨v, ms, rfl, htr, hvt, hml, hm3⟩
  obtain ⟨ta, tc, rfl⟩ := owns_slice htr.own
  have M3 := Lib.hid hm3
  have VBX := Lib.hid hvt
  have TR3 := Lib.hid htr
  have M7 : Hid (1 ≤ ms.length ∧ ms.length ≤ 6) := Lib.hid ⟨by have := hvt.v.pos; rw [List.length_map] at this; exact this, by omega⟩
  have M3 := Lib.hid hm3
  have B2 : Hid (b < w2.heap.size) := Lib.hid (by have := M2.out.size; have := BL.out; omega)
  rw [LN.out]
  obtain ⟨l, hl⟩ : ∃ l, out.map SM.sch = l := ⟨_, rfl⟩
  rw [hl] at OM SG GDD SUB CNT ⊢
  obtain ⟨ll, hll⟩ : ∃ N : Nat, Hid (l.length = N) := ⟨_, Lib.hid rfl⟩
  rw [hll.out]
  have NDC : Hid ((l.map Sch.comp).Nodup) := Lib.hid (SUB.out.nodup (by decide))
  clear BC htr hvt hml hm3 hl SUB
  obtain ⟨m, hm⟩ : ∃ N : Nat, Hid (ms.length = N) := ⟨_, Lib.hid rfl⟩
  rw [hm.out] at TR3 M7 ⊢
  obtain ⟨ts, hts⟩ : ∃ ts, ms.map NM.n = ts := ⟨_, rfl⟩
  have TL : Hid (ts.length = m) := Lib.hid (by rw [← hts, List.length_map]; exact hm.out)
  have SL3 : Hid (SlOf 3 RNod w3 ta ts) := Lib.hid (by rw [← hts]; exact TR3.out.sl.2)
  have TRM : Hid (∀ W, Mv b n0 w3 W → SlOf 3 RNod W ta ts) := Lib.hid (fun W hm => by rw [← hts]; exact (TR3.out.mv B2.out hm).sl.2)
  rw [hts] at VBX
  clear hts TR3
  go_upto_region 4 with (fail)
  have RT0 := Lib.hid (Row.new w3 #[.slice ta m tc] 29)
  obtain ⟨W4, hW4⟩ : ∃ W : World, Hid (W = w3.alloc (.cells #[.slice ta m tc] 29)) := ⟨_, Lib.hid rfl⟩
  have m4 : Mv b n0 w3 W4 := by rw [hW4.out]; exact (Mv.refl (M3.out.tp (M2.out.tp TP.out))).alloc _
  have M45 := Lib.hid m4
  have g4 : Gr w3 W4 := by rw [hW4.out]; exact (Gr.refl _).alloc _
  have B3 : Hid (b < w3.heap.size) := Lib.hid (by have := M3.out.size; have := B2.out; omega)
  have M4 := Lib.hid (M3.out.trans B2.out m4)
  have SL4 : Hid (SlOf 3 RNod W4 ta ts) := Lib.hid (SL3.out.gr RNod.mono g4)
  rw [← hW4.out] at RT0 ⊢
  obtain ⟨PB, hPB⟩ : ∃ N : Nat, Hid (w3.heap.size = N) := ⟨_, Lib.hid rfl⟩
  have PB2 : Hid (w2.heap.size ≤ PB) := Lib.hid (by rw [← hPB.out]; exact M3.out.size)
  rw [hPB.out] at RT0 ⊢
  clear hW4 hPB m4 g4 SL3
  have G4 : Hid (Gr w W4) := Lib.hid ((M2.out.trans BL.out M4.out).out G1.out BW.out)
  have SS4 : Hid (SlOf 3 RSch W4 va l) := Lib.hid (OM.out W4 M4.out)
  have B0 : Hid ((vioT ts l).length ≤ 96) := Lib.hid (vio_small (a := 3) (m := 6) VBX.out.v (fun s hs => (GDD.out s hs).few) (Nat.le_refl _) (by rw [TL.out]; exact M7.out.2))
  have V1 := violations_any ts ta tc l va vc W4 SL4.out (chk_V VBX.out.v) SS4.out SG.out (HM.out.gr G4.out) (HV.out.gr G4.out) (by have := B0.out; omega)
  rw [TL.out, hll.out] at V1
  have V1 := Lib.hid V1
  have x0 := RT0.out.cell 0 (by simp)
  simp only [List.getElem_cons_zero] at x0
  have hx := has_of_cell x0
  go_wp2_with fail
  refine V1.out.mono ?_
  rintro e w5 ⟨v1, rfl, hv1, hg5⟩
  obtain ⟨a1, c1, rfl⟩ := hv1.form
  have VA := Lib.hid hv1
  have G5 := Lib.hid hg5
  have GW := Lib.hid (G4.out.trans hg5)
  have AW := Lib.hid (fun W (hg : Gr w5 W) => awake10_any W (HM.out.gr (GW.out.trans hg)) (HV.out.gr (GW.out.trans hg)))
  clear hv1 hg5 V1 x0 hx
  obtain ⟨n, hn⟩ : ∃ N : Nat, Hid ((vioT ts l).length = N) := ⟨_, Lib.hid rfl⟩
  rw [hn.out] at VA ⊢
  have n96 : n ≤ 96 := by rw [← hn.out]; exact B0.out
  by_cases n1 : n = 0
  · subst n1
    go_wp2_with fail
    refine (AW.out w5 (Gr.refl _)).mono ?_
    rintro e w6 ⟨rfl, hg6⟩
    go_wp2_with fail
    rw [HP0.out]
    exact ⟨rfl, GW.out.trans hg6⟩
  · have n2 : ((n : Int) == 0) = false := by rw [beq_eq_false_iff_ne]; omega
    have M5 := Lib.hid (M4.out.gr G5.out)
    have HT5 := Lib.hid (M5.out.tp (M2.out.tp TP.out))
    go_wp2_with fail
    refine (nM_any _ b n0 (n : Int) HT5.out (by omega) (by omega)).mono ?_
    rintro e w6 ⟨i, rfl, ⟨i0, i1⟩, hm6⟩
    obtain ⟨i, rfl⟩ := Int.eq_ofNat_of_zero_le i0
    have IL : i < (vioT ts l).length := by rw [hn.out]; omega
    have B5 : Hid (b < w5.heap.size) := Lib.hid HT5.out.has
    have M6 := Lib.hid (M5.out.trans B2.out hm6)
    have G6 : Hid (Gr w w6) := Lib.hid ((M2.out.trans BL.out M6.out).out G1.out BW.out)
    have BN : Hid (PB ≠ b ∧ b < W4.heap.size) := Lib.hid (by
      have h1 := M3.out.size
      have h2 := M4.out.size
      have h3 := B2.out
      have h4 := PB2.out
      exact ⟨by omega, by omega⟩)
    have VA6 : Hid (VO W4.heap.size w6 (.slice a1 n c1) (vioT ts l)) := Lib.hid (hm6.owns VA.out BN.out.2)
    have RT6 := Lib.hid (hm6.row (RT0.out.gr G5.out) BN.out.1)
    have SS6 : Hid (SlOf 3 RSch w6 va l) := Lib.hid (OM.out w6 M6.out)
    have YM : (vioT ts l)[i] ∈ vioT ts l := List.getElem_mem IL
    have ND := Lib.hid (fun i k (hk : k < i) (hi : i < (vioT ts l).length) => finds_once (ts := ts) (l := l) (fun s hs => (GDD.out s hs).asc) (fun i hi => ((VBX.out.v.prp i hi).asc |> fun q => by rw [List.Nodup, List.pairwise_map]; exact q.imp (fun h => vlt_ne h))) hk hi)
    obtain ⟨g, e1, p0, p1, p2, p3⟩ := VA6.out.at IL
    obtain ⟨y, hy⟩ : ∃ y, (vioT ts l)[i] = y := ⟨_, rfl⟩
    rw [hy] at p0 p1 p2 p3 YM
    subst e1
    obtain ⟨kd, nd0, sc0, pr0⟩ := y
    dsimp only at p0 p1 p2 p3
    have hp := has_of_cell p0
    have kn : (i : Int) < (n : Int) := by omega
    have HM6 := Lib.hid hm6
    clear hm6 i0 i1
    go_upto_region 8 with (fail)
    have RY := Lib.hid (Row.new w6 #[.int .i64 kd, .int .i64 nd0, .string (bs sc0), .string (bs pr0)] 36)
    obtain ⟨W7, hW7⟩ : ∃ W : World, Hid (W = w6.alloc (.cells #[.int .i64 kd, .int .i64 nd0, .string (bs sc0), .string (bs pr0)] 36)) := ⟨_, Lib.hid rfl⟩
    have g7 : Gr w6 W7 := by rw [hW7.out]; exact (Gr.refl _).alloc _
    rw [← hW7.out] at RY ⊢
    obtain ⟨PY, hPY⟩ : ∃ N : Nat, Hid (w6.heap.size = N) := ⟨_, Lib.hid rfl⟩
    rw [hPY.out] at RY ⊢
    have G7 : Hid (Gr w W7) := Lib.hid (G6.out.trans g7)
    have SL7 : Hid (SlOf 3 RNod W7 ta ts) := Lib.hid (TRM.out W7 (((M45.out.gr G5.out).trans B3.out HM6.out).gr g7))
    have VA7 : Hid (VO W4.heap.size W7 (.slice (some ⟨g, 0, none⟩) n c1) (vioT ts l)) := Lib.hid (VA6.out.gr g7)
    have RT7 := Lib.hid (RT6.out.gr g7)
    have SS7 : Hid (SlOf 3 RSch W7 va l) := Lib.hid (SS6.out.giC g7)
    have AW7 := Lib.hid (fun W (hg : Gr W7 W) => awake10_any W (HM.out.gr (G7.out.trans hg)) (HV.out.gr (G7.out.trans hg)))
    clear hW7 hPY g7 p0 p1 p2 p3 hp
    have y0 := RY.out.cell 0 (by simp)
    have y3 := RY.out.cell 3 (by simp)
    simp only [List.getElem_cons_zero, List.getElem_cons_succ] at y0 y3
    have hy := has_of_cell y0
    by_cases k7 : kd = 7
    · subst k7
      go_wp2_with fail
      refine (AW7.out W7 (Gr.refl _)).mono ?_
      rintro e w8 ⟨rfl, hg8⟩
      go_wp2_with fail
      rw [HP0.out]
      exact ⟨rfl, G7.out.trans hg8⟩
    · have b7 : (kd == 7) = false := by rw [beq_eq_false_iff_ne]; exact k7
      by_cases pc : pr0 = cmpN
      · have bc : (pr0 == [99, 111, 109, 112, 97, 116, 105, 98, 108, 101]) = true := by rw [pc]; rfl
        go_wp2_with fail
        refine (AW7.out W7 (Gr.refl _)).mono ?_
        rintro e w8 ⟨rfl, hg8⟩
        go_wp2_with fail
        rw [HP0.out]
        exact ⟨rfl, G7.out.trans hg8⟩
      have bc : (pr0 == [99, 111, 109, 112, 97, 116, 105, 98, 108, 101]) = false := by rw [beq_eq_false_iff_ne]; exact pc
      by_cases pp : pr0 = phS
      · have bp : (pr0 == [112, 104, 97, 110, 100, 108, 101]) = true := by rw [pp]; rfl
        go_wp2_with fail
        refine (AW7.out W7 (Gr.refl _)).mono ?_
        rintro e w8 ⟨rfl, hg8⟩
        go_wp2_with fail
        rw [HP0.out]
        exact ⟨rfl, G7.out.trans hg8⟩
      have bp : (pr0 == [112, 104, 97, 110, 100, 108, 101]) = false := by rw [beq_eq_false_iff_ne]; exact pp
      obtain ⟨k, hk, hnode, hN⟩ := vio_at YM
      have hnode : nd0 = (k : Int) := hnode
      subst hnode
      obtain ⟨s, hps, _⟩ := VBX.out.v.pathEx hk
      have PT := rPath_ok ts ta tc k s W7 SL7.out VBX.out.v hk hps
      rw [TL.out] at PT
      have x0 := RT7.out.cell 0 (by simp)
      have y1 := RY.out.cell 1 (by simp)
      simp only [List.getElem_cons_zero, List.getElem_cons_succ] at x0 y1
      have hx := has_of_cell x0
      go_wp2_with fail
      refine PT.mono ?_
      rintro e w8 ⟨rfl, hg8⟩
      have RT8 := Lib.hid (RT7.out.gr hg8)
      have RY8 := Lib.hid (RY.out.gr hg8)
      have G78 := Lib.hid hg8
      clear hg8 x0 y0 y1 y3 hx hy
      have x0 := RT8.out.cell 0 (by simp)
      simp only [List.getElem_cons_zero, List.getElem_cons_succ] at x0
      have hx := has_of_cell x0
      go_upto_region 12 with (fail)
      have RZ := Lib.hid (Row.new w8 #[.slice ta m tc] 29)
      obtain ⟨W9, hW9⟩ : ∃ W : World, Hid (W = w8.alloc (.cells #[.slice ta m tc] 29)) := ⟨_, Lib.hid rfl⟩
      have g9 : Gr w8 W9 := by rw [hW9.out]; exact (Gr.refl _).alloc _
      rw [← hW9.out] at RZ ⊢
      obtain ⟨PZ, hPZ⟩ : ∃ N : Nat, Hid (w8.heap.size = N) := ⟨_, Lib.hid rfl⟩
      rw [hPZ.out] at RZ ⊢
      have G79 : Hid (Gr W7 W9) := Lib.hid (G78.out.trans g9)
      have RT9 := Lib.hid (RT8.out.gr g9)
      have RY9 := Lib.hid (RY8.out.gr g9)
      clear hW9 g9 x0 hx
      have x0 := RT9.out.cell 0 (by simp)
      have y0 := RY9.out.cell 0 (by simp)
      have y2 := RY9.out.cell 2 (by simp)
      have y3 := RY9.out.cell 3 (by simp)
      simp only [List.getElem_cons_zero, List.getElem_cons_succ] at x0 y0 y2 y3
      have hx := has_of_cell x0
      have hy := has_of_cell y0
      obtain ⟨j, hgov, hj, hsch, ⟨k6, p, hp, hpn, hxv⟩ | ⟨k6, r, hr, hrn, hrv⟩⟩ := vio_kind hN k7
      · have k6 : kd = 6 := k6
        subst k6
        have DL := rDelete_ok ts ta tc s pr0 W9 (SL7.out.gr RNod.mono G79.out) VBX.out.v
        rw [TL.out] at DL
        go_wp2_with fail
        refine DL.mono ?_
        rintro e w10 ⟨hg10, hd⟩
        rcases hd with ⟨_, hno⟩ | ⟨k2, v, ms2, hk2, hp2, rfl, htr, hmp⟩
        · rcases hno with h | ⟨k', hk', hp', q⟩
          · exact absurd hps (h k hk)
          obtain rfl := VBX.out.v.pathInj hp' hps hk' hk
          unfold valP at q
          rw [Option.map_eq_none_iff, List.find?_eq_none] at q
          exact absurd hpn (by simpa using q p hp)
        obtain rfl := VBX.out.v.pathInj hp2 hps hk2 hk
        obtain ⟨za, zc, rfl⟩ := owns_slice htr.own
        have RZ10 := Lib.hid (RZ.out.gr hg10)
        have G10 := Lib.hid hg10
        have TRZ := Lib.hid htr
        have zf := RZ10.out.free 0
        have z0 := RZ10.out.cell 0 (by simp)
        simp only [List.getElem_cons_zero] at z0
        have hz := has_of_cell z0
        clear hg10 htr DL x0 y0 y2 y3 hx hy
        go_wp2_with fail
        have PZL : W7.heap.size ≤ PZ := by have h1 := hPZ.out; have h2 := G78.out.size; omega
        have RZ' := Lib.hid (RZ10.out.set 0 (.slice za ms2.length zc))
        have TF := Lib.hid (TRZ.out.box (o := 0) (u := .slice za ms2.length zc) RZ10.out.ty (by decide) (TRZ.out.ne_ty RZ10.out.ty (by decide)))
        have GZ : Hid (Gr W7 (w10.setCell ⟨PZ, 0, none⟩ (.slice za ms2.length zc))) := Lib.hid ((G79.out.trans G10.out).setc PZL)
        have hpn : p.name = pr0 := hpn
        have ZV : VT (ms2.map NM.n) := by rw [hmp]; exact VT_set VBX.out.v hk (PV_wo (VBX.out.v.prp k2 hk))
        have ZL : (ms2.map NM.n).length = ts.length := by rw [hmp]; unfold setN; rw [List.length_set]
        have LS := rep_del hk hgov hp (by have q := (VBX.out.v.prp k2 hk).asc; rw [List.Nodup, List.pairwise_map]; exact q.imp (fun h => vlt_ne h)) hxv (by rw [hpn]; exact pc) (by rw [hpn]; exact pp)
        rw [hpn, ← hmp] at LS
        exact wp_at hT (by kernel_rfl) (repT (zs := ms2.map NM.n) HP0 (Lib.hid (G7.out.trans GZ.out)) (Lib.hid (VA7.out.gr GZ.out)) hn (Lib.hid (RY.out.gr GZ.out)) RZ' (Lib.hid TF.out.sl.2) (Lib.hid (by rw [List.length_map])) (Lib.hid ZV) (Lib.hid (vio_small (a := 3) (m := 6) ZV (fun s hs => (GDD.out s hs).few) (Nat.le_refl _) (by rw [ZL, TL.out]; exact M7.out.2))) (Lib.hid (SS7.out.giC GZ.out)) hll SG (Lib.hid (HM.out.gr (G7.out.trans GZ.out))) (Lib.hid (HV.out.gr (G7.out.trans GZ.out))) (Lib.hid LS) ND)
      · have b6 : (kd == 6) = false := by rw [beq_eq_false_iff_ne]; exact k6
        have PZL : Hid (W7.heap.size ≤ PZ) := Lib.hid (by have h1 := hPZ.out; have h2 := G78.out.size; omega)
        obtain ⟨sj, hsj⟩ : ∃ s, l.getD j default = s := ⟨_, rfl⟩
        have hje : l[j] = sj := by rw [← hsj, List.getD_eq_getElem?_getD, List.getElem?_eq_getElem hj]; rfl
        have SMM : sj ∈ l := by rw [← hje]; exact List.getElem_mem hj
        have FS : Hid (findC l sc0 = some j) := Lib.hid (by rw [show sc0 = (l.getD j default).comp from hsch]; exact findC_self NDC.out hj)
        have GJ := Lib.hid (GDD.out sj SMM)
        have RNN := Lib.hid (ascN_nodup GJ.out.asc)
        have CJ := Lib.hid (CNT.out sj SMM)
        have hrn : r.name = pr0 := hrn
        rw [hsj] at hr hrv
        have RP : Hid (ruleP r = true ∧ r.count ≤ 2) := Lib.hid ⟨GJ.out.rls r hr, CJ.out r hr⟩
        have FP := Lib.hid (fun z (hz : fitP ts r = some z) => fit_put (k := k) hk RP.out.1 RP.out.2 (hanOk_of VBX.out.x) hz)
        have NMV : Hid (pr0 ∈ namesV) := Lib.hid (by rw [← hrn]; exact props_names (GJ.out.nam r hr))
        have LSX := Lib.hid (fun z (hz : fitP ts r = some z) => (by
          have q := rep_set (z := z) hk hgov (r := r) (by rw [hsj]; exact hr) (by rw [hsj]; exact RNN.out) (by rw [hsj]; exact hrv) (by rw [hrn]; exact pc) (by rw [hrn]; exact pp) (FP.out z hz).1
          rw [hrn] at q
          exact q : Less ⟨kd, (k : Int), sc0, pr0⟩ (vioT ts l) (vioT (setN ts k (putP (nd ts k).props ⟨pr0, z⟩)) l)))
        obtain ⟨ix, hix, hrx⟩ := List.getElem_of_mem hr
        have HRX := Lib.hid hrx
        have HRN := Lib.hid hrn
        have FC := rFindS_any l va vc sc0 W9 (SS7.out.giC G79.out) (by have := (GDD.out); have h4 := SG.out.ok.1; omega)
        rw [hll.out] at FC
        have FC := Lib.hid FC
        clear hrx hrn hsch hrv k6
        go_wp2_with fail
        refine FC.out.mono ?_
        rintro e w10 ⟨hg10, ⟨_, q⟩ | ⟨j2, rfl, q⟩⟩
        · rw [FS.out] at q; cases q
        obtain rfl : j = j2 := by rw [FS.out] at q; exact Option.some.inj q
        have G10 : Hid (Gr W7 w10) := Lib.hid (G79.out.trans hg10)
        have RZ10 := Lib.hid (RZ.out.gr hg10)
        obtain ⟨bS, oS, pa, pc2, rfl, _, _, c2, hrl⟩ := schs_at SS7.out j hj
        rw [hje] at c2 hrl
        have SLR := Lib.hid hrl
        have c2 := cell_gr G10.out c2
        have jn : (j : Int) < (ll : Int) := by have := hll.out; omega
        obtain ⟨nr, hnr⟩ : ∃ N : Nat, Hid (sj.rules.length = N) := ⟨_, Lib.hid rfl⟩
        rw [hnr.out] at c2
        have IXN : Hid (ix < nr) := Lib.hid (by rw [← hnr.out]; exact hix)
        have NR3 : Hid (nr ≤ 3) := Lib.hid (by rw [← hnr.out]; exact GJ.out.few)
        have hc := has_of_cell c2
        clear hg10 hrl q x0 y0 y2 y3 hx hy
        go_wp2_with fail
        have nr3 := NR3.out
        go_loopw [11, 100] (fun s11 s100 wr => ∃ i : Nat, i ≤ nr ∧ s100 = .int .i64 (i : Int) ∧ s11 = .int .i64 0 ∧ Gr W7 wr ∧ SetI ts r k m PZ ix pr0 ta tc i wr) (fun _ s100 _ => nr - (intOf s100).toNat)
        case atStart => exact ⟨0, Nat.zero_le _, rfl, rfl, by first | exact G10.out | exact G10.out.drewN _, .inl ⟨Nat.zero_le _, by first | exact RZ10.out | exact RZ10.out.gr ((Gr.refl _).drewN _)⟩⟩
        case round =>
          obtain ⟨i, hi, rfl, rfl, hg, hs⟩ := hrel
          have HG := Lib.hid hg
          have HS := Lib.hid hs
          clear hg hs
          have x0 := (RT7.out.gr HG.out).cell 0 (by simp)
          have y3 := (RY.out.gr HG.out).cell 3 (by simp)
          simp only [List.getElem_cons_zero, List.getElem_cons_succ] at x0 y3
          have hx := has_of_cell x0
          have hy := has_of_cell y3
          by_cases hlt : i < nr
          · have KL : i < sj.rules.length := by rw [hnr.out]; exact hlt
            obtain ⟨b3, o3, qa, qc, rfl, d0, d1, d2, d3, d4, d5, d6, dw⟩ := ruls_at (SLR.out.gr RRul.mono HG.out) i KL
            obtain ⟨ri, hri⟩ : ∃ x, sj.rules[i] = x := ⟨_, rfl⟩
            rw [hri] at d0 d1 d2 d3 d4 d5 d6 dw
            obtain ⟨nm, rq, kd2, lo, hi2, ct, ws⟩ := ri
            dsimp only at d0 d1 d2 d3 d4 d5 d6 dw
            have HRI := Lib.hid hri
            have DW := Lib.hid dw
            have hd := has_of_cell d0
            have kn2 : (i : Int) < (nr : Int) := by omega
            have HLT := Lib.hid hlt
            clear hri dw hlt
            by_cases hnm : nm = pr0
            · have hb : (nm == pr0) = true := beq_iff_eq.2 hnm
              have IX : Hid (i = ix) := Lib.hid (by
                have q1 := RNN.out
                by_cases e : i = ix
                · exact e
                · exfalso
                  have r1 : (sj.rules[i]).name = (sj.rules[ix]).name := by rw [HRI.out, HRX.out, HRN.out]; exact hnm
                  rcases Nat.lt_or_ge i ix with h | h
                  · have q2 := nodup_getElem q1 (k := i) (i := ix) h (by rw [List.length_map]; exact hix)
                    rw [List.getElem_map, List.getElem_map] at q2
                    exact q2 r1
                  · have q2 := nodup_getElem q1 (k := ix) (i := i) (by omega) (by rw [List.length_map]; exact KL)
                    rw [List.getElem_map, List.getElem_map] at q2
                    exact q2 r1.symm)
              have HRE : Hid ((⟨nm, rq, kd2, lo, hi2, ct, ws⟩ : Rul) = r) := Lib.hid (by
                have q := HRI.out
                have q2 := HRX.out
                rw [← q, ← q2]
                congr 1)
              have hnm2 : pr0 = nm := hnm.symm
              subst hnm2
              clear hnm hb
              go_upto_region 20 with (fail)
              have RB := Lib.hid (Row.new wr #[.string (bs pr0), .bool rq, .int .i64 kd2, .int .i64 lo, .int .i64 hi2, .int .i64 ct, .slice qa ws.length qc] 51)
              obtain ⟨W11, hW11⟩ : ∃ W : World, Hid (W = wr.alloc (.cells #[.string (bs pr0), .bool rq, .int .i64 kd2, .int .i64 lo, .int .i64 hi2, .int .i64 ct, .slice qa ws.length qc] 51)) := ⟨_, Lib.hid rfl⟩
              have g11 : Gr wr W11 := by rw [hW11.out]; exact (Gr.refl _).alloc _
              rw [← hW11.out] at RB ⊢
              obtain ⟨PR, hPR⟩ : ∃ N : Nat, Hid (wr.heap.size = N) := ⟨_, Lib.hid rfl⟩
              rw [hPR.out] at RB ⊢
              have G11 : Hid (Gr W7 W11) := Lib.hid (HG.out.trans g11)
              have G11r := Lib.hid g11
              clear hW11 hPR g11 x0 y3 hx hy d0 d1 d2 d3 d4 d5 d6 hd
              have x0 := (RT7.out.gr G11.out).cell 0 (by simp)
              have y3 := (RY.out.gr G11.out).cell 3 (by simp)
              have d0 := RB.out.cell 0 (by simp)
              have d1 := RB.out.cell 1 (by simp)
              have d2 := RB.out.cell 2 (by simp)
              have d3 := RB.out.cell 3 (by simp)
              have d4 := RB.out.cell 4 (by simp)
              have d5 := RB.out.cell 5 (by simp)
              have d6 := RB.out.cell 6 (by simp)
              simp only [List.getElem_cons_zero, List.getElem_cons_succ] at x0 y3 d0 d1 d2 d3 d4 d5 d6
              have hx := has_of_cell x0
              have hy := has_of_cell y3
              have hd := has_of_cell d0
              have FT : Calls Tryz.prog 18 #[.agg #[.slice ta m tc], .agg #[.string (bs pr0), .bool rq, .int .i64 kd2, .int .i64 lo, .int .i64 hi2, .int .i64 ct, .slice qa ws.length qc]] W11 (GivesVal (fitP ts r) W11) := by
                have q := fitting_any ts ta tc ⟨pr0, rq, kd2, lo, hi2, ct, ws⟩ qa qc W11 (SL7.out.gr RNod.mono G11.out) VBX.out.v (DW.out.giS G11r.out) (by rw [HRE.out]; exact RP.out.1) (by rw [HRE.out]; exact RP.out.2)
                rw [TL.out] at q
                have e : fitP ts ⟨pr0, rq, kd2, lo, hi2, ct, ws⟩ = fitP ts r := by rw [HRE.out]
                rw [← e]
                exact q
              have FT := Lib.hid FT
              go_wp2_with fail
              refine FT.out.mono ?_
              rintro e w12 ⟨hg12, hf⟩
              have G12 := Lib.hid (G11.out.trans hg12)
              have R12 : Hid (Gr wr w12) := Lib.hid (G11r.out.trans hg12)
              clear hg12 x0 y3 hx hy d0 d1 d2 d3 d4 d5 d6 hd FT
              have x0 := (RT7.out.gr G12.out).cell 0 (by simp)
              have y3 := (RY.out.gr G12.out).cell 3 (by simp)
              simp only [List.getElem_cons_zero, List.getElem_cons_succ] at x0 y3
              have hx := has_of_cell x0
              have hy := has_of_cell y3
              cases hz : fitP ts r with
              | none =>
                rw [hz] at hf
                obtain rfl := hf
                go_wp2_with fail
                refine (AW7.out w12 G12.out).mono ?_
                rintro e w13 ⟨rfl, hg13⟩
                go_wp2_with fail
                rw [HP0.out]
                exact ⟨rfl, G7.out.trans (G12.out.trans hg13)⟩
              | some z =>
                rw [hz] at hf
                obtain rfl := hf
                have HZ := Lib.hid hz
                have z1 : Hid (z.length ≤ 256) := Lib.hid (by have := (FP.out z hz).2; omega)
                have ST1 := rSet_ok ts ta tc s pr0 z w12 (SL7.out.gr RNod.mono G12.out) VBX.out.v NMV.out z1.out
                rw [TL.out] at ST1
                have ST1 := Lib.hid ST1
                clear hz
                go_wp2_with fail
                refine ST1.out.mono ?_
                rintro e w13 ⟨hg13, ⟨_, hno⟩ | ⟨k2, v, ms2, hk2, hp2, rfl, htr, hmp⟩⟩
                · exact absurd hps (hno k hk)
                obtain rfl := VBX.out.v.pathInj hp2 hps hk2 hk
                obtain ⟨za, zc, rfl⟩ := owns_slice htr.own
                have RZ13 : Hid (Row w13 PZ 29 [.slice ta m tc]) := Lib.hid (by
                  rcases HS.out with ⟨_, h⟩ | ⟨h, _⟩
                  · exact h.gr (R12.out.trans hg13)
                  · exact absurd IX.out (by omega))
                have G13 := Lib.hid (G12.out.trans hg13)
                have TRZ := Lib.hid htr
                have HMP := Lib.hid hmp
                have zf := RZ13.out.free 0
                have z0 := RZ13.out.cell 0 (by simp)
                simp only [List.getElem_cons_zero] at z0
                have hzb := has_of_cell z0
                clear hg13 htr hmp ST1 x0 y3 hx hy
                go_wp2_with fail
                have RZ' := RZ13.out.set 0 (.slice za ms2.length zc)
                have TF := TRZ.out.box (o := 0) (u := .slice za ms2.length zc) RZ13.out.ty (by decide) (TRZ.out.ne_ty RZ13.out.ty (by decide))
                go_roundw
                case rel => exact ⟨i + 1, by have := HLT.out; omega, by go_num, rfl, G13.out.setc PZL.out, .inr ⟨by have := IX.out; omega, z, za, zc, ms2.map NM.n, HZ.out, HMP.out, TF.sl.2, by rw [List.length_map]; exact RZ'⟩⟩
                case measure => exact meas_up HLT.out
            · have hb : (nm == pr0) = false := by rw [beq_eq_false_iff_ne]; exact hnm
              have IX : Hid (i ≠ ix) := Lib.hid (fun e => hnm (by
                have q := HRI.out
                have q2 := HRX.out
                have q3 : sj.rules[i] = sj.rules[ix] := by congr 1
                rw [q, q2] at q3
                rw [← HRN.out, ← q3]))
              clear hnm
              go_wp2_with fail
              go_roundw
              case rel => exact ⟨i + 1, by have := HLT.out; omega, by go_num, rfl, by first | exact HG.out.alloc _ | exact (HG.out.alloc _).drewN _, by first | exact HS.out.next IX.out ((Gr.refl _).alloc _) | exact HS.out.next IX.out (((Gr.refl _).alloc _).drewN _)⟩
              case measure => exact meas_up HLT.out
          · obtain rfl : i = nr := by omega
            obtain ⟨h, _⟩ | ⟨_, z, za, zc, zs, hz, hzs, hsl, hrow⟩ := HS.out
            · exact absurd IXN.out (by omega)
            have HSL := Lib.hid hsl
            have HROW := Lib.hid hrow
            have z1 := (FP.out z hz).2
            have ZV : VT zs := by rw [hzs]; exact VT_set VBX.out.v hk (PV_put (VBX.out.v.prp k hk) NMV.out (by dsimp only; omega))
            have ZL : zs.length = ts.length := by rw [hzs]; unfold setN; rw [List.length_set]
            have LS := LSX.out z hz
            rw [← hzs] at LS
            have LS := Lib.hid LS
            have ZVH := Lib.hid ZV
            have ZLH := Lib.hid ZL
            clear hz hzs hsl hrow z1 ZV ZL x0 y3 hx hy
            go_wp2_with fail
            exact wp_at hT (by kernel_rfl) (repT (zs := zs) HP0 (Lib.hid (G7.out.trans HG.out)) (Lib.hid (VA7.out.gr HG.out)) hn (Lib.hid (RY.out.gr HG.out)) HROW HSL (Lib.hid rfl) ZVH (Lib.hid (vio_small (a := 3) (m := 6) ZVH.out (fun s hs => (GDD.out s hs).few) (Nat.le_refl _) (by rw [ZLH.out, TL.out]; exact M7.out.2))) (Lib.hid (SS7.out.giC HG.out)) hll SG (Lib.hid (HM.out.gr (G7.out.trans HG.out))) (Lib.hid (HV.out.gr (G7.out.trans HG.out))) LS ND)
end Go.Proofs.YtbpkndiecomggaaGreatDoor

set_option linter.unusedVariables false
namespace Go.Proofs.YtbpkndiecomggaaGreatDoor
open Go Go.RowKit
variable {H : Type} {enc : TypeId × Value → H}
theorem handed_shaped_and {a : Assume} {C : Checked} {os : Os} {f : FuncId} {fn : Func} {s : ChangeSpec} {conds : List PathCond} {apart fresh handsOn again : Bool} {X : World → Array Value → Prop}
    (hX : ∀ (w w' : World) (args : Array Value), w.heap = w'.heap → X w args → X w' args)
    (own : ownKnob C.prog.godebug = none) (started : os.Started) (noInit : C.prog.inits.idxOf? f = none) (hfn : C.prog.funcs[f]? = some fn)
    (witness : ∃ (w : World) (tape : Go.Tape) (i : Input), w.os = os ∧ (w.forCall tape i).Shaped C.prog ∧ i.vars = [] ∧ Input.okWide C.prog (w.forCall tape i) .any w.heap.size f i ∧
      ((s.pre enc C.prog fn conds apart (w.forCall tape i).memory i.args ∧ X (w.forCall tape i).memory i.args) ∧ sizedMet enc C.prog fn (OpenSpec.ofChange s) apart (w.forCall tape i).memory i.args) ∧ a.holds C.prog (lone (Frame.enter C.prog f i.args .normal) [] (w.forCall tape i)))
    (contract : ∀ (W : World) (base : Nat) (args : Array Value) (ds gs : List (DataW H)) (before : List MemPlace),
      (∀ (j : Nat) t v, fn.params[j]? = some t → args[j]? = some v → Value.okWide C.prog W .any base t v) →
      DataW.Whole enc C.prog fn.params.toList s.vars apart W args.toList ds gs before → X W args → W.ShapedOpen C.prog →
      Calls C.prog f args W fun e W' => ∃ v, e = .returned v ∧ s.post enc C.prog fn apart fresh handsOn again W args v W') :
    ReturnsInHanded a C os f .any (fun w args => (s.pre enc C.prog fn conds apart w args ∧ X w args) ∧ sizedMet enc C.prog fn (OpenSpec.ofChange s) apart w args) (s.post enc C.prog fn apart fresh handsOn again) := by
  refine returnsInHanded_of_calls own started noInit witness ?_
  intro w tape i _ hsh _ hok hpre hholds
  obtain ⟨_, _, _, fn', hfn', _, _, _, _, hval⟩ := hok
  have e : fn' = fn := Option.some.inj (hfn'.symm.trans hfn)
  subst e
  obtain ⟨⟨⟨ds, gs, before, hw, hc⟩, hx⟩, hz⟩ := hpre
  have hw' := DataW.Whole.of_heap (w' := w.forCall tape i) (by rfl) hw
  refine (contract (w.forCall tape i) w.heap.size i.args ds gs before hval hw' (hX _ _ _ (by rfl) hx) hsh).mono fun e W' ⟨v, he, hp⟩ => ?_
  subst he
  exact ChangeSpec.post_blind hp
theorem cellsStr : Tryz.prog.cellsOf 9 = 1 := by kernel_rfl
theorem stdNamed : Tryz.prog.globalNamed "bringup/conform.standard" = some 0 := by kernel_rfl
theorem tStd : (Tryz.prog.globals[0]?).map (·.type) = some 125 := by kernel_rfl
theorem std_of_laid {W : World} {rest : List (String × DataW Unit)} (h : laidMet Tryz.prog (("bringup/conform.standard", Rows.laid_bringup_conform_standard) :: rest) W) : StdV W := by
  obtain ⟨ps, ⟨g', t', cs, fuel, p, q, hg', ht', hvar, hd, _, _⟩, _⟩ := h
  obtain rfl := Option.some.inj (stdNamed.symm.trans hg')
  obtain rfl := Option.some.inj (tStd.symm.trans ht')
  obtain ⟨xs, m, _, hx, hl, hn, hf⟩ := DataW.trod_array (n := 7) (e := 9) Tryz.underlying125 hd
  have hxs : xs.map (·.1) = stdS.map (fun s => (.lit (.string s) : DataW Unit)) := by
    have := congrArg Prod.fst hx
    exact (DataW.agg.inj this).symm
  intro i hi
  have hi2 : i < xs.length := by rw [hn]; exact hi
  have hfi := hf i hi
  rw [cellsStr, Nat.mul_one, List.getElem?_eq_getElem hi2] at hfi
  obtain ⟨s, hcs, hxi, _⟩ := DataW.trod_string Tryz.underlying9 hfi
  have e1 : (xs.map (·.1))[i]? = some (.lit (.string s.data.toList)) := by
    rw [List.getElem?_map, List.getElem?_eq_getElem hi2, hxi]; rfl
  have hk : i < stdS.length := hi
  rw [hxs, List.getElem?_map, List.getElem?_eq_getElem hk] at e1
  have e2 : stdS[i] = s.data.toList := by
    have := Option.some.inj e1
    simpa using this
  have hv := World.var?_cell stdNamed hvar i
  have e3 : cs.toList[i]? = some (.string s) := by
    have := congrArg (·[0]?) hcs
    simpa [List.getElem?_take, List.getElem?_drop] using this
  rw [hv]
  have e4 : s = bs (stdS[i]) := by rw [e2]; exact bs_of s
  have e5 : cs[i]? = some (.string s) := by simpa using e3
  exact e5.trans (congrArg (fun z => some (Value.string z)) e4)
def Libs (w : World) : Prop := MaxV w ∧ StdV w
theorem libs_of {W : World} (h : laidMetH Tryz.prog Rows.conformUnknownRow.laid W) (hsh : W.ShapedOpen Tryz.prog) : Libs W := by
  rw [MakeChecks.laidMetH_plain _ _ _ (by kernel_rfl)] at h
  refine ⟨?_, std_of_laid h.tail⟩
  exact cell_of_shapedOpen_int (t := 3) (zero := #[.int .i64 0]) hsh (of_decide_eq_true (by kernel_rfl)) (by kernel_rfl) rfl (by kernel_rfl) (by kernel_rfl) Tryz.underlying3
end Go.Proofs.YtbpkndiecomggaaGreatDoor

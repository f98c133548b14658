/- Lemmas and contracts for the proof of ConformOpen (several texts in one, printed by wip/tools/pack.py): WcF WcG UdC UdD WdC WeA UdG UdE. -/
import Derived.Test.YtbpkndiecomggaaGreatDoorCo1p
import Derived.Test.YtbpkndiecomggaaGreatDoorCo1g
import Derived.Test.YtbpkndiecomggaaGreatDoorCo1i
import Derived.Test.YtbpkndiecomggaaGreatDoorCo1o
import Derived.Test.YtbpkndiecomggaaGreatDoorCo1k
import Derived.Test.YtbpkndiecomggaaGreatDoorCo1b
set_option maxRecDepth 100000
set_option maxHeartbeats 16000000
set_option linter.unusedVariables false
set_option linter.unusedSimpArgs false
namespace Go.Proofs.YtbpkndiecomggaaGreatDoor
open Go.RowKit
open Classical
theorem infoVio : (Tryz.prog.info? 36).map (fun i => (i.zero, i.size, i.bytes)) = some (some (.agg #[.int .i64 0, .int .i64 0, .string (bs []), .string (bs [])]), 4, 48) := by kernel_rfl
theorem Vio.enc_one (x : Vio) : ∀ u ∈ x.enc, u.oneCell' = true := by
  intro u hu
  simp only [Vio.enc, List.mem_cons, List.not_mem_nil, or_false] at hu
  rcases hu with rfl | rfl | rfl | rfl <;> rfl
def VO (base : Nat) (w : World) (v : Value) (L : List Vio) : Prop := w.ownsRow base 36 4 v L.length (L.flatMap Vio.enc)
theorem VO.push {base : Nat} {w : World} {v : Value} {L : List Vio} {n : Nat} {y : Vio} (h : w.ownsRow base 36 4 v (n + 1) (L.flatMap Vio.enc ++ y.enc)) (hn : L.length = n) : VO base w v (L ++ [y]) := by
  unfold VO
  rw [List.length_append, hn, List.flatMap_append]
  simpa using h
theorem VO.form {base : Nat} {w : World} {v : Value} {L : List Vio} (h : VO base w v L) : ∃ a c, v = .slice a L.length c := owns_slice h
def StdV (w : World) : Prop := ∀ i (h : i < 7), w.cell? ⟨0, i, none⟩ = some (.string (bs (stdS[i]'h)))
theorem StdV.gr {w w' : World} (h : StdV w) (hg : Gr w w') : StdV w' := fun i hi => cell_gr hg (h i hi)
theorem StdV.sl {w : World} (h : StdV w) : SlOf 1 RS w (some ⟨0, 0, none⟩) stdS := fun k hk => by
  refine ⟨_, _, rfl, ?_, ?_⟩
  · rw [Nat.zero_add, Nat.mul_one]
    exact h k hk
  · have : ∀ z ∈ stdS, z.length ≤ 9223372036854775807 := by decide
    exact this _ (List.getElem_mem hk)
theorem fm_take {α β : Type} (f : α → Option β) {l : List α} {j : Nat} (h : j < l.length) : (l.take (j + 1)).filterMap f = (l.take j).filterMap f ++ (f l[j]).toList := by
  have e : [l[j]].filterMap f = (f l[j]).toList := by
    cases h2 : f l[j] <;> simp [List.filterMap_cons, h2]
  rw [List.take_succ_eq_append_getElem h, List.filterMap_append, e]
theorem GoodT.nodOk {ts : Tr} (h : GoodT ts) {k : Nat} (hk : k < ts.length) : NodOk ts[k] := ⟨h.asc hk, (h.big k hk).1, (h.big k hk).2⟩
def SchOk (l : List Sch) : Prop := l.length ≤ 1000000 ∧ ∀ s ∈ l, s.rules.length ≤ 16 ∧ ∀ r ∈ s.rules, r.words.length ≤ 1000000
theorem fm_le {α β : Type} (f : α → Option β) (l : List α) (j : Nat) : ((l.take j).filterMap f).length ≤ l.length := Nat.le_trans (List.length_filterMap_le _ _) (by rw [List.length_take]; omega)
theorem vioF_bound {ts : Tr} {l : List Sch} (h : GoodT ts) (hl : SchOk l) {k : Nat} (hk : k ≤ ts.length) : (vioF ts l k).length ≤ 5000 := by
  have h1 := vioF_few (ts := ts) (l := l) (a := 16) (b := 24) (fun s hs => (hl.2 s hs).1) (fun i hi => by rw [nd_get hi]; exact (h.big i hi).1) k hk
  have h2 := h.len.2
  omega
def GivesVio (L : List Vio) (w : World) (e : Ending) (w' : World) : Prop := ∃ v, e = .returned v ∧ VO w.heap.size w' v L ∧ Gr w w'
theorem vios_any (ts : Tr) (ta : Option Addr) (tc : Nat) (l : List Sch) (sa : Option Addr) (sc : Nat) (w : World) (h : SlOf 3 RNod w ta ts) (hc : chkT ts = 0) (hs : SlOf 3 RSch w sa l) (hso : SchOk l) (hM : MaxV w) (hV : StdV w) :
    Calls Tryz.prog 44 #[.agg #[.slice ta ts.length tc], .slice sa l.length sc] w (GivesVio (vioT ts l) w) := by
  have H := Lib.hid h
  have HC := Lib.hid hc
  have HS := Lib.hid hs
  have SO := Lib.hid hso
  have HM := Lib.hid hM
  have HV := Lib.hid hV
  have GT := Lib.hid (good_of hc)
  clear h hc hs hso hM hV
  obtain ⟨i0, hi, hz0, hz1, hz2⟩ := info_parts infoVio
  obtain ⟨P0, hP0⟩ : ∃ P : Ending → World → Prop, P = GivesVio (vioT ts l) w := ⟨_, rfl⟩
  rw [← hP0]
  have HP0 := Lib.hid hP0
  clear hP0
  go_enter Tryz.func44, Tryz.ntmps44
  go_upto_region 2 with (fail)
  have RT := Lib.hid (Row.new w #[.slice ta ts.length tc] 29)
  obtain ⟨W, hW⟩ : ∃ W : World, Hid (W = w.alloc (.cells #[.slice ta ts.length tc] 29)) := ⟨_, Lib.hid rfl⟩
  have GW : Hid (Gr w W) := Lib.hid (by rw [hW.out]; exact (Gr.refl _).alloc _)
  rw [← hW.out] at RT ⊢
  obtain ⟨PT, hPT⟩ : ∃ N : Nat, Hid (w.heap.size = N) := ⟨_, Lib.hid rfl⟩
  rw [hPT.out] at RT ⊢
  clear hW hPT
  obtain ⟨BB, hBB⟩ : ∃ N : Nat, Hid (W.heap.size = N) := ⟨_, Lib.hid rfl⟩
  obtain ⟨m, hm⟩ : ∃ N : Nat, Hid (ts.length = N) := ⟨_, Lib.hid rfl⟩
  have M120 : Hid (m ≤ 120) := Lib.hid (by rw [← hm.out]; exact GT.out.len.2)
  rw [hm.out] at RT ⊢
  have x0 := RT.out.cell 0 (by simp)
  have hx := has_of_cell x0
  have m120 := M120.out
  go_wp2_with fail
  clear x0 hx
  go_loopw [5, 21] (fun v i wr => ∃ k : Nat, i = .int .i64 (k : Int) ∧ k ≤ m ∧ VO BB wr v (vioF ts l k) ∧ Gr W wr) (fun _ i _ => m - (intOf i).toNat)
  case atStart => exact ⟨0, rfl, Nat.zero_le _, World.ownsRow_nil _ _ _ _, Gr.refl _⟩
  case round =>
    obtain ⟨k, rfl, hk, ho, hg⟩ := hrel
    obtain ⟨va, vc, rfl⟩ := ho.form
    have OX := Lib.hid ho
    have HG := Lib.hid hg
    clear ho hg
    by_cases hlt : k < m
    · have HLT := Lib.hid hlt
      have KW := Lib.hid (wrap_up (k := k) (by omega))
      have hkt : k < ts.length := by rw [hm.out]; exact hlt
      have NO := Lib.hid (GT.out.nodOk hkt)
      have LB : Hid ((vioF ts l k).length ≤ 5000) := Lib.hid (vioF_bound GT.out SO.out (Nat.le_of_lt hkt))
      have NX : Hid (vioF ts l (k + 1) = vioF ts l k ++ vioN ts l k ts[k]) := Lib.hid (by rw [vioF, nd_get hkt])
      obtain ⟨b, o, pa, pc, rfl, c0, c1, c2, hps, -, -, -⟩ := nods_at H.out k hkt
      replace c0 := cell_gr (GW.out.trans HG.out) c0
      replace c1 := cell_gr (GW.out.trans HG.out) c1
      replace c2 := cell_gr (GW.out.trans HG.out) c2
      obtain ⟨n, hn⟩ : ∃ n, ts[k] = n := ⟨_, rfl⟩
      rw [hn] at NO NX c0 c1 c2 hps
      have PS := Lib.hid hps
      obtain ⟨X, hX⟩ : ∃ X, vioF ts l k = X := ⟨_, rfl⟩
      rw [hX] at OX LB NX ⊢
      obtain ⟨nx, hnx⟩ : ∃ N : Nat, Hid (X.length = N) := ⟨_, Lib.hid rfl⟩
      rw [hnx.out] at ⊢
      have NB0 : Hid (nx ≤ 5000) := Lib.hid (by rw [← hnx.out]; exact LB.out)
      have hh := has_of_cell c0
      clear hkt hn hps hX
      have kmi : (k : Int) < (m : Int) := by omega
      go_upto_region 5 with (fail)
      have RN := Lib.hid (Row.new wr #[.int .i64 n.parent, .string (bs n.name), .slice pa n.props.length pc] 86)
      obtain ⟨W5, hW5⟩ : ∃ W : World, Hid (W = wr.alloc (.cells #[.int .i64 n.parent, .string (bs n.name), .slice pa n.props.length pc] 86)) := ⟨_, Lib.hid rfl⟩
      have G5 : Hid (Gr wr W5) := Lib.hid (by rw [hW5.out]; exact (Gr.refl _).alloc _)
      rw [← hW5.out] at RN ⊢
      obtain ⟨PN, hPN⟩ : ∃ N : Nat, Hid (wr.heap.size = N) := ⟨_, Lib.hid rfl⟩
      rw [hPN.out] at RN ⊢
      clear hW5 hPN c0 c1 c2 hh kmi
      have x0 := RN.out.cell 0 (by simp)
      have x1 := RN.out.cell 1 (by simp)
      have x2 := RN.out.cell 2 (by simp)
      simp only [List.getElem_cons_zero, List.getElem_cons_succ] at x0 x1 x2
      have hx := has_of_cell x0
      go_wp2_with fail
      refine (comp_any n pa pc W5 (PS.out.gr RPrp.mono ((GW.out.trans HG.out).trans G5.out)) NO.out ((HM.out.gr (GW.out.trans HG.out)).gr G5.out)).mono ?_
      rintro e w6 ⟨cv, rfl, hcv, hg6⟩
      obtain ⟨ca, rfl⟩ := hcv.form
      have CV := Lib.hid hcv
      have G6 := Lib.hid (G5.out.trans hg6)
      have RN6 := Lib.hid (RN.out.gr hg6)
      have VN : Hid (vioN ts l k n = match govP n l with
        | none => match compP n with
          | [] => []
          | c :: _ => [⟨7, k, c, []⟩]
        | some k2 => (l.getD k2 default).rules.filterMap (rulV ts k n (l.getD k2 default)) ++ n.props.filterMap (extV k (l.getD k2 default))) := Lib.hid rfl
      have GV := Lib.hid (fun W2 (hg : Gr w6 W2) => gov_any n pa pc l sa sc W2 (PS.out.gr RPrp.mono (((GW.out.trans HG.out).trans G6.out).trans hg)) NO.out (((HM.out.gr (GW.out.trans HG.out)).gr G6.out).gr hg) (HS.out.giC (((GW.out.trans HG.out).trans G6.out).trans hg)) SO.out.1)
      obtain ⟨cs, hcs⟩ : ∃ cs, compP n = cs := ⟨_, rfl⟩
      rw [hcs] at CV VN ⊢
      have CL : Hid (cs.length ≤ 1000) := Lib.hid (by rw [← hcs]; exact compP_len NO.out)
      clear hcv hg6 hcs x0 x1 x2 hx
      have x0 := RN6.out.cell 0 (by simp)
      have x1 := RN6.out.cell 1 (by simp)
      have x2 := RN6.out.cell 2 (by simp)
      simp only [List.getElem_cons_zero, List.getElem_cons_succ] at x0 x1 x2
      have hx := has_of_cell x0
      go_wp2_with fail
      refine (GV.out w6 (Gr.refl _)).mono ?_
      rintro e w7 ⟨rfl, hg7⟩
      have G7 := Lib.hid (G6.out.trans hg7)
      have RN7 := Lib.hid (RN6.out.gr hg7)
      have CV7 := Lib.hid (CV.out.gr hg7)
      have O7 : Hid (VO BB w7 (.slice va nx vc) X) := Lib.hid (by have := Gr.owns OX.out G7.out; rw [hnx.out] at this; unfold VO; rw [hnx.out]; exact this)
      have GA := Lib.hid (HG.out.trans G7.out)
      have SZ : Hid (BB ≤ w7.heap.size) := Lib.hid (by have := GA.out.size; have := hBB.out; omega)
      have OY : Hid (w7.ownsRow BB 36 4 (.slice va nx vc) nx (X.flatMap Vio.enc)) := Lib.hid (by have := O7.out; unfold VO at this; rwa [hnx.out] at this)
      clear hg7 x0 x1 x2 hx RN6 CV G6 RN G5 GV
      obtain ⟨gv, hgv⟩ : ∃ gv, govP n l = gv := ⟨_, rfl⟩
      have GVL := fun k2 (e : gv = some k2) => govF_lt (l := l) (cs := compP n) (k := k2) (by show govP n l = _; rw [hgv, e])
      rw [hgv] at VN ⊢
      clear hgv
      cases gv with
      | none =>
        have ev : govV none = .tuple #[.int .i64 0, .bool false] := rfl
        rw [ev]
        clear ev GVL
        dsimp only at VN
        cases cs with
        | nil =>
          have NX2 : Hid (vioF ts l (k + 1) = X) := Lib.hid (by rw [NX.out, VN.out]; simp)
          go_wp2_with fail
          go_roundw
          case rel => exact ⟨k + 1, by (try rw [KW.out]); simp, by have := HLT.out; omega, by rw [NX2.out]; exact O7.out, GA.out⟩
          case measure => (try rw [KW.out]); exact meas_up HLT.out
        | cons c cr =>
          obtain ⟨B, rfl, q0⟩ := CV7.out.at (k := 0) (by simp)
          simp only [List.getElem_cons_zero] at q0
          have NX2 : Hid (vioF ts l (k + 1) = X ++ [⟨7, k, c, []⟩]) := Lib.hid (by rw [NX.out, VN.out])
          have hq := has_of_cell q0
          have NB := Lib.hid (show nx ≤ 6000 by have := NB0.out; omega)
          have cl := CL.out
          have OA := Lib.hid (Gr.owns OY.out ((Gr.refl w7).alloc (.cells #[.int .i64 7, .int .i64 (k : Int), .string (bs c), .string (bs [])] 36)))
          have NR := Lib.hid (row_cells (Row.new w7 #[.int .i64 7, .int .i64 (k : Int), .string (bs c), .string (bs [])] 36))
          go_wp2_with (at_builtin; refine wpList_append_own _ rfl _ _ 31 rfl BB 36 i0 (.agg #[.int .i64 0, .int .i64 0, .string (bs []), .string (bs [])]) 4 48 Tryz.underlying31 hi hz0 hz1 hz2 rfl (by decide) _ nx ((X).flatMap Vio.enc) rfl OA.out ⟨(w7).heap.size, 0, none⟩ 1 1 (Vio.enc ⟨7, k, c, []⟩) rfl rfl NR.out (Vio.enc_one _) (by unfold maxLen; have := NB.out; omega) (by have := NB.out; omega) (by have := SZ.out; simp; omega) ?_; intro v' wz hown' hgrow hnil; have HOz := Lib.hid hown'; have HGz := Lib.hid hgrow; clear hown' hgrow hnil)
          have O8 := Lib.hid (VO.push (y := ⟨7, k, c, []⟩) HOz.out hnx.out)
          have G8 := Lib.hid (((GA.out).alloc (.cells #[.int .i64 7, .int .i64 (k : Int), .string (bs c), .string (bs [])] 36)).grown HGz.out (fun j e => by have := (owns_block OA.out j e).1; have := hBB.out; omega))
          clear OA NR HOz HGz
          go_roundw
          case rel => exact ⟨k + 1, by (try rw [KW.out]); simp, by have := HLT.out; omega, by rw [NX2.out]; exact O8.out, G8.out⟩
          case measure => (try rw [KW.out]); exact meas_up HLT.out
      | some k2 =>
        have ev : govV (some k2) = .tuple #[.int .i64 (k2 : Int), .bool true] := rfl
        rw [ev]
        have k2l := GVL k2 rfl
        clear ev GVL
        dsimp only at VN
        have e0 : l.getD k2 default = l[k2] := by rw [List.getD_eq_getElem?_getD, List.getElem?_eq_getElem k2l]; rfl
        rw [e0] at VN
        obtain ⟨sb, so2, ra, rc, rfl, d0, d1, d2, hrs⟩ := schs_at HS.out k2 k2l
        replace d0 := cell_gr (GW.out.trans GA.out) d0
        replace d1 := cell_gr (GW.out.trans GA.out) d1
        replace d2 := cell_gr (GW.out.trans GA.out) d2
        have SRO := Lib.hid (SO.out.2 _ (List.getElem_mem k2l))
        have LI : Hid (l.length ≤ 1000000) := Lib.hid SO.out.1
        obtain ⟨s, hs⟩ : ∃ s, l[k2] = s := ⟨_, rfl⟩
        rw [hs] at VN d0 d1 d2 hrs SRO
        have k2i : (k2 : Int) < (l.length : Int) := by omega
        have hh := has_of_cell d0
        have RUL := Lib.hid hrs
        clear e0 hs hrs k2l
        obtain ⟨rn, hrn0⟩ : ∃ N : Nat, Hid (s.rules.length = N) := ⟨_, Lib.hid rfl⟩
        have RN16 : Hid (rn ≤ 16) := Lib.hid (by rw [← hrn0.out]; exact SRO.out.1)
        rw [hrn0.out] at d2
        go_upto_region 11 with (fail)
        have PSR := Lib.hid (Row.new w7 #[.string (bs s.comp), .bool s.closed, .slice ra rn rc] 48)
        obtain ⟨W8, hW8⟩ : ∃ W : World, Hid (W = w7.alloc (.cells #[.string (bs s.comp), .bool s.closed, .slice ra rn rc] 48)) := ⟨_, Lib.hid rfl⟩
        have G8 : Hid (Gr w7 W8) := Lib.hid (by rw [hW8.out]; exact (Gr.refl _).alloc _)
        rw [← hW8.out] at PSR ⊢
        obtain ⟨PS2, hPS⟩ : ∃ N : Nat, Hid (w7.heap.size = N) := ⟨_, Lib.hid rfl⟩
        rw [hPS.out] at PSR ⊢
        clear hW8 hPS d0 d1 d2 hh k2i
        have O8 : Hid (VO BB W8 (.slice va nx vc) X) := Lib.hid (Gr.owns O7.out G8.out)
        have RN8 := Lib.hid (RN7.out.gr G8.out)
        have GA8 := Lib.hid (GA.out.trans G8.out)
        have NX2 : Hid (vioF ts l (k + 1) = X ++ s.rules.filterMap (rulV ts k n s) ++ n.props.filterMap (extV k s)) := Lib.hid (by rw [NX.out, VN.out, List.append_assoc])
        have s2 := PSR.out.cell 2 (by simp)
        simp only [List.getElem_cons_zero, List.getElem_cons_succ] at s2
        have hs2 := has_of_cell s2
        have rn16 := RN16.out
        clear OX HG G7 CV7 O7 GA SZ OY RN7 G8
        obtain ⟨wo, hwo⟩ : ∃ wo, wo = wr := ⟨_, rfl⟩
        subst hwo
        go_wp2_with fail
        clear s2 hs2
        go_loopw [5, 54] (fun v i wr => ∃ j : Nat, i = .int .i64 (j : Int) ∧ j ≤ rn ∧ VO BB wr v (X ++ (s.rules.take j).filterMap (rulV ts k n s)) ∧ Row wr PN 86 [.int .i64 n.parent, .string (bs n.name), .slice pa n.props.length pc] ∧ Row wr PS2 48 [.string (bs s.comp), .bool s.closed, .slice ra rn rc] ∧ Gr W wr) (fun _ i _ => rn - (intOf i).toNat)
        case atStart => exact ⟨0, rfl, Nat.zero_le _, by rw [List.take_zero, List.filterMap_nil, List.append_nil]; exact O8.out, RN8.out, PSR.out, GA8.out⟩
        case round =>
          clear O8 RN8 PSR GA8
          obtain ⟨j, rfl, hj, ho, hrn, hrs2, hg⟩ := hrel
          obtain ⟨vd, ve, rfl⟩ := ho.form
          have HG2 := Lib.hid hg
          have RN1 := Lib.hid hrn
          have RS1 := Lib.hid hrs2
          have O1 := Lib.hid ho
          clear hrn hrs2 hg ho
          by_cases hjl : j < rn
          · have JL := Lib.hid hjl
            have JW := Lib.hid (wrap_up (k := j) (by have := RN16.out; omega))
            have hjr : j < s.rules.length := by rw [hrn0.out]; exact hjl
            obtain ⟨rb, ro, wa, wc, e9, c0, c1, c2, c3, c4, c5, c6, hwd⟩ := ruls_at (RUL.out.giU (GW.out.trans HG2.out)) j hjr
            have WL : Hid (s.rules[j].words.length ≤ 1000000) := Lib.hid (SRO.out.2 _ (List.getElem_mem hjr))
            have FT := Lib.hid (fm_take (rulV ts k n s) hjr)
            obtain ⟨r, hr⟩ : ∃ r, s.rules[j] = r := ⟨_, rfl⟩
            rw [hr] at c0 c1 c2 c3 c4 c5 c6 hwd WL FT
            have WD := Lib.hid hwd
            have hh := has_of_cell c0
            have jli : (j : Int) < (rn : Int) := by omega
            subst e9
            clear hr hwd hjr
            obtain ⟨Y, hY⟩ : ∃ Y, X ++ (s.rules.take j).filterMap (rulV ts k n s) = Y := ⟨_, rfl⟩
            have YB : Hid (Y.length ≤ 5100) := Lib.hid (by rw [← hY, List.length_append]; have := LB.out; have := fm_le (rulV ts k n s) s.rules j; have := RN16.out; have := hrn0.out; omega)
            have YX : Hid (X ++ (s.rules.take (j + 1)).filterMap (rulV ts k n s) = Y ++ (rulV ts k n s r).toList) := Lib.hid (by rw [FT.out, ← List.append_assoc, hY])
            rw [hY] at O1 ⊢
            clear hY FT
            obtain ⟨ny, hny⟩ : ∃ N : Nat, Hid (Y.length = N) := ⟨_, Lib.hid rfl⟩
            have NB : Hid (ny ≤ 6000) := Lib.hid (by have := YB.out; have := hny.out; omega)
            rw [hny.out] at ⊢
            go_upto_region 14 with (fail)
            have RB := Lib.hid (Row.new wr #[.string (bs r.name), .bool r.req, .int .i64 r.kind, .int .i64 r.low, .int .i64 r.high, .int .i64 r.count, .slice wa r.words.length wc] 51)
            obtain ⟨W9, hW9⟩ : ∃ W : World, Hid (W = wr.alloc (.cells #[.string (bs r.name), .bool r.req, .int .i64 r.kind, .int .i64 r.low, .int .i64 r.high, .int .i64 r.count, .slice wa r.words.length wc] 51)) := ⟨_, Lib.hid rfl⟩
            have G9 : Hid (Gr wr W9) := Lib.hid (by rw [hW9.out]; exact (Gr.refl _).alloc _)
            rw [← hW9.out] at RB ⊢
            obtain ⟨PB, hPB⟩ : ∃ N : Nat, Hid (wr.heap.size = N) := ⟨_, Lib.hid rfl⟩
            rw [hPB.out] at RB ⊢
            clear hW9 hPB c0 c1 c2 c3 c4 c5 c6 hh jli
            have RN9 := Lib.hid (RN1.out.gr G9.out)
            have RT9 := Lib.hid (RT.out.gr (HG2.out.trans G9.out))
            have x0 := RN9.out.cell 0 (by simp)
            have x1 := RN9.out.cell 1 (by simp)
            have x2 := RN9.out.cell 2 (by simp)
            simp only [List.getElem_cons_zero, List.getElem_cons_succ] at x0 x1 x2
            have y0 := RB.out.cell 0 (by simp)
            have y1 := RB.out.cell 1 (by simp)
            have y2 := RB.out.cell 2 (by simp)
            have y3 := RB.out.cell 3 (by simp)
            have y4 := RB.out.cell 4 (by simp)
            have y5 := RB.out.cell 5 (by simp)
            have y6 := RB.out.cell 6 (by simp)
            simp only [List.getElem_cons_zero, List.getElem_cons_succ] at y0 y1 y2 y3 y4 y5 y6
            have t0 := RT9.out.cell 0 (by simp)
            simp only [List.getElem_cons_zero] at t0
            have hx := has_of_cell x0
            have hy := has_of_cell y0
            have ht := has_of_cell t0
            have BC := cBroken_any ts (some ⟨b, o, none⟩) tc n pa pc r wa wc W9 (H.out.gr RNod.mono (GW.out.trans (HG2.out.trans G9.out))) HC.out (PS.out.gr RPrp.mono (GW.out.trans (HG2.out.trans G9.out))) NO.out (WD.out.giS G9.out) WL.out (HM.out.gr (GW.out.trans (HG2.out.trans G9.out)))
            rw [hm.out] at BC
            have BC := Lib.hid BC
            have RV : Hid (rulV ts k n s r = if brkP ts n r = 0 then none else some ⟨brkP ts n r, k, s.comp, r.name⟩) := Lib.hid rfl
            obtain ⟨bad, hbad⟩ : ∃ bad, brkP ts n r = bad := ⟨_, rfl⟩
            rw [hbad] at BC RV
            clear hbad
            go_wp2_with fail
            refine BC.out.mono ?_
            rintro e w10 ⟨rfl, hg10⟩
            have G10 := Lib.hid (G9.out.trans hg10)
            have RN2 := Lib.hid (RN1.out.gr G10.out)
            have RS2 := Lib.hid (RS1.out.gr G10.out)
            have RB2 := Lib.hid (RB.out.gr hg10)
            have GA2 := Lib.hid (HG2.out.trans G10.out)
            have O2 := Lib.hid (Gr.owns O1.out G10.out)
            have OY2 : Hid (w10.ownsRow BB 36 4 (.slice vd ny ve) ny (Y.flatMap Vio.enc)) := Lib.hid (by have := O2.out; rwa [hny.out] at this)
            have SZ : Hid (BB ≤ w10.heap.size) := Lib.hid (by have := GA2.out.size; have := hBB.out; omega)
            clear hg10 x0 x1 x2 y0 y1 y2 y3 y4 y5 y6 t0 hx hy ht BC
            by_cases hz : bad = 0
            · have z1 := bne_f hz
              have E1 : Hid (X ++ (s.rules.take (j + 1)).filterMap (rulV ts k n s) = Y) := Lib.hid (by rw [YX.out, RV.out, if_pos hz]; simp)
              have O3 : Hid (VO BB w10 (.slice vd ny ve) Y) := Lib.hid (by unfold VO; rw [hny.out]; exact OY2.out)
              clear hz
              go_wp2_with fail
              go_roundw
              case rel => exact ⟨j + 1, by (try rw [JW.out]); simp, by have := JL.out; omega, by rw [E1.out]; exact O3.out, RN2.out, RS2.out, GA2.out⟩
              case measure => (try rw [JW.out]); exact meas_up JL.out
            · have z1 := bne_t hz
              have E1 : Hid (X ++ (s.rules.take (j + 1)).filterMap (rulV ts k n s) = Y ++ [⟨bad, k, s.comp, r.name⟩]) := Lib.hid (by rw [YX.out, RV.out, if_neg hz]; rfl)
              clear hz
              have s0 := RS2.out.cell 0 (by simp)
              have r0 := RB2.out.cell 0 (by simp)
              simp only [List.getElem_cons_zero] at s0 r0
              have hs0 := has_of_cell s0
              have hr0 := has_of_cell r0
              have OA := Lib.hid (Gr.owns OY2.out ((Gr.refl w10).alloc (.cells #[.int .i64 bad, .int .i64 (k : Int), .string (bs s.comp), .string (bs r.name)] 36)))
              have NR := Lib.hid (row_cells (Row.new w10 #[.int .i64 bad, .int .i64 (k : Int), .string (bs s.comp), .string (bs r.name)] 36))
              go_wp2_with (at_builtin; refine wpList_append_own _ rfl _ _ 31 rfl BB 36 i0 (.agg #[.int .i64 0, .int .i64 0, .string (bs []), .string (bs [])]) 4 48 Tryz.underlying31 hi hz0 hz1 hz2 rfl (by decide) _ ny ((Y).flatMap Vio.enc) rfl OA.out ⟨(w10).heap.size, 0, none⟩ 1 1 (Vio.enc ⟨bad, k, s.comp, r.name⟩) rfl rfl NR.out (Vio.enc_one _) (by unfold maxLen; have := NB.out; omega) (by have := NB.out; omega) (by have := SZ.out; simp; omega) ?_; intro v' wz hown' hgrow hnil; have HOz := Lib.hid hown'; have HGz := Lib.hid hgrow; clear hown' hgrow hnil)
              have O3 := Lib.hid (VO.push (y := ⟨bad, k, s.comp, r.name⟩) HOz.out hny.out)
              have G3 := Lib.hid ((GA2.out.alloc (.cells #[.int .i64 bad, .int .i64 (k : Int), .string (bs s.comp), .string (bs r.name)] 36)).grown HGz.out (fun j e => by have := (owns_block OA.out j e).1; have := hBB.out; omega))
              have RN3 := Lib.hid ((RN2.out.alloc (.cells #[.int .i64 bad, .int .i64 (k : Int), .string (bs s.comp), .string (bs r.name)] 36)).kept HGz.out ((RN2.out.alloc (.cells #[.int .i64 bad, .int .i64 (k : Int), .string (bs s.comp), .string (bs r.name)] 36)).ty.ne OA.out (by decide)))
              have RS3 := Lib.hid ((RS2.out.alloc (.cells #[.int .i64 bad, .int .i64 (k : Int), .string (bs s.comp), .string (bs r.name)] 36)).kept HGz.out ((RS2.out.alloc (.cells #[.int .i64 bad, .int .i64 (k : Int), .string (bs s.comp), .string (bs r.name)] 36)).ty.ne OA.out (by decide)))
              clear OA NR HOz HGz s0 r0 hs0 hr0
              go_roundw
              case rel => exact ⟨j + 1, by (try rw [JW.out]); simp, by have := JL.out; omega, by rw [E1.out]; exact O3.out, RN3.out, RS3.out, G3.out⟩
              case measure => (try rw [JW.out]); exact meas_up JL.out
          · obtain rfl : rn = j := by omega
            have YE : Hid (X ++ (s.rules.take rn).filterMap (rulV ts k n s) = X ++ s.rules.filterMap (rulV ts k n s)) := Lib.hid (by rw [← hrn0.out, List.take_length])
            rw [YE.out] at O1
            have YE2 := congrArg List.length YE.out
            rw [YE2]
            clear YE YE2
            obtain ⟨Y, hY⟩ : ∃ Y, X ++ s.rules.filterMap (rulV ts k n s) = Y := ⟨_, rfl⟩
            have YB : Hid (Y.length ≤ 5100) := Lib.hid (by rw [← hY, List.length_append]; have := LB.out; have := List.length_filterMap_le (rulV ts k n s) s.rules; have := RN16.out; have := hrn0.out; omega)
            rw [hY] at O1 NX2 ⊢
            clear hY
            have x2 := RN1.out.cell 2 (by simp)
            simp only [List.getElem_cons_zero, List.getElem_cons_succ] at x2
            have hx := has_of_cell x2
            obtain ⟨wo2, hwo2⟩ : ∃ wo, wo = wr := ⟨_, rfl⟩
            subst hwo2
            obtain ⟨np, hnp⟩ : ∃ N : Nat, Hid (n.props.length = N) := ⟨_, Lib.hid rfl⟩
            have NP24 : Hid (np ≤ 24) := Lib.hid (by have := NO.out.2.1; have := hnp.out; omega)
            have np24 := NP24.out
            have RN1' := RN1.out
            rw [hnp.out] at x2 RN1' ⊢
            have RN1' := Lib.hid RN1'
            go_wp2_with fail
            clear x2 hx
            go_loopw [5, 78] (fun v i wr => ∃ q : Nat, i = .int .i64 (q : Int) ∧ q ≤ np ∧ VO BB wr v (Y ++ (n.props.take q).filterMap (extV k s)) ∧ Row wr PN 86 [.int .i64 n.parent, .string (bs n.name), .slice pa np pc] ∧ Row wr PS2 48 [.string (bs s.comp), .bool s.closed, .slice ra rn rc] ∧ Gr W wr) (fun _ i _ => np - (intOf i).toNat)
            case atStart => exact ⟨0, rfl, Nat.zero_le _, by rw [List.take_zero, List.filterMap_nil, List.append_nil]; exact O1.out, RN1'.out, RS1.out, HG2.out⟩
            case round =>
              obtain ⟨q, rfl, hq, ho, hrn, hrs3, hg⟩ := hrel
              obtain ⟨vf, vg, rfl⟩ := ho.form
              have HG3 := Lib.hid hg
              have RN4 := Lib.hid hrn
              have RS4 := Lib.hid hrs3
              have O4 := Lib.hid ho
              clear hrn hrs3 hg ho
              by_cases hql : q < np
              · have QL := Lib.hid hql
                have QW := Lib.hid (wrap_up (k := q) (by omega))
                have hqp : q < n.props.length := by rw [hnp.out]; exact hql
                obtain ⟨pb, po, e9, p0, p1, -, -⟩ := prps_at (PS.out.gr RPrp.mono (GW.out.trans HG3.out)) q hqp
                have FT := Lib.hid (fm_take (extV k s) hqp)
                obtain ⟨p, hp⟩ : ∃ p, n.props[q] = p := ⟨_, rfl⟩
                rw [hp] at p0 p1 FT
                have hh := has_of_cell p0
                have qli : (q : Int) < (np : Int) := by omega
                subst e9
                clear hp hqp
                obtain ⟨Z, hZ⟩ : ∃ Z, Y ++ (n.props.take q).filterMap (extV k s) = Z := ⟨_, rfl⟩
                have ZB : Hid (Z.length ≤ 5200) := Lib.hid (by rw [← hZ, List.length_append]; have := YB.out; have := fm_le (extV k s) n.props q; have := NP24.out; have := hnp.out; omega)
                have ZX : Hid (Y ++ (n.props.take (q + 1)).filterMap (extV k s) = Z ++ (extV k s p).toList) := Lib.hid (by rw [FT.out, ← List.append_assoc, hZ])
                rw [hZ] at O4 ⊢
                clear hZ FT
                obtain ⟨nz, hnz⟩ : ∃ N : Nat, Hid (Z.length = N) := ⟨_, Lib.hid rfl⟩
                have NB : Hid (nz ≤ 6000) := Lib.hid (by have := ZB.out; have := hnz.out; omega)
                rw [hnz.out] at ⊢
                go_upto_region 21 with (fail)
                have RP := Lib.hid (Row.new wr #[.string (bs p.name), .string (bs p.val)] 83)
                obtain ⟨W11, hW11⟩ : ∃ W : World, Hid (W = wr.alloc (.cells #[.string (bs p.name), .string (bs p.val)] 83)) := ⟨_, Lib.hid rfl⟩
                have G11 : Hid (Gr wr W11) := Lib.hid (by rw [hW11.out]; exact (Gr.refl _).alloc _)
                rw [← hW11.out] at RP ⊢
                obtain ⟨PP, hPP⟩ : ∃ N : Nat, Hid (wr.heap.size = N) := ⟨_, Lib.hid rfl⟩
                rw [hPP.out] at RP ⊢
                clear hW11 hPP p0 p1 hh qli
                have CR := conR_any s.rules PP p.name ra rc W11 (RUL.out.giU (GW.out.trans (HG3.out.trans G11.out))) (by have := RN16.out; have := hrn0.out; omega) (RP.out.cell 0 (by simp))
                rw [hrn0.out] at CR
                have CR := Lib.hid CR
                have CST := Lib.hid (fun W2 (hg : Gr W W2) => conS_any stdS p.name (some ⟨0, 0, none⟩) 7 W2 ((HV.out.gr (GW.out.trans hg)).sl) (by decide))
                have EB : Hid (extV k s p = if (s.closed && (!(s.rules.any (fun r => r.name == p.name)) && !stdS.any (fun x => p.name == x))) = true then some ⟨6, k, s.comp, p.name⟩ else none) := Lib.hid (by unfold extV extB; rw [List.contains_eq_any_beq])
                obtain ⟨ru, hru⟩ : ∃ ru : Bool, s.rules.any (fun r => r.name == p.name) = ru := ⟨_, rfl⟩
                obtain ⟨sb2, hsb2⟩ : ∃ sb : Bool, stdS.any (fun x => p.name == x) = sb := ⟨_, rfl⟩
                rw [hru] at CR EB
                have CST' : Hid (∀ W2 : World, Gr W W2 → Calls Tryz.prog 85 #[.slice (some ⟨0, 0, none⟩) 7 7, .string (bs p.name)] W2 (Grows W2 (.bool sb2))) := Lib.hid (fun W2 hg => by have := CST.out W2 hg; rw [hsb2] at this; exact this)
                rw [hsb2] at EB
                clear CST hru hsb2
                have RS5 := Lib.hid (RS4.out.gr G11.out)
                have s2 := RS5.out.cell 2 (by simp)
                simp only [List.getElem_cons_zero, List.getElem_cons_succ] at s2
                have hs2 := has_of_cell s2
                go_wp2_with fail
                refine CR.out.mono ?_
                rintro e w12 ⟨rfl, hg12⟩
                clear s2 hs2 RS5 CR
                have G12 := Lib.hid (G11.out.trans hg12)
                have RN5 := Lib.hid (RN4.out.gr G12.out)
                have RS6 := Lib.hid (RS4.out.gr G12.out)
                have RP6 := Lib.hid (RP.out.gr hg12)
                have GA3 := Lib.hid (HG3.out.trans G12.out)
                have O5 := Lib.hid (Gr.owns O4.out G12.out)
                have s1 := RS6.out.cell 1 (by simp)
                have s0 := RS6.out.cell 0 (by simp)
                have q0 := RP6.out.cell 0 (by simp)
                simp only [List.getElem_cons_zero, List.getElem_cons_succ] at s1 s0 q0
                have hs1 := has_of_cell s1
                have hq0 := has_of_cell q0
                have hgl : Has w12 0 := has_of_cell ((HV.out.gr (GW.out.trans GA3.out)) 0 (by omega))
                clear hg12
                obtain ⟨cl, hcl⟩ : ∃ cl : Bool, s.closed = cl := ⟨_, rfl⟩
                rw [hcl] at EB s1
                clear hcl
                cases cl with
                | false =>
                  have E1 : Hid (Y ++ (n.props.take (q + 1)).filterMap (extV k s) = Z) := Lib.hid (by rw [ZX.out, EB.out]; simp)
                  go_wp2_with fail
                  refine wp_region_grows (by kernel_rfl) (by kernel_rfl) ?_
                  repeat (go_big_quiet_step (first | (go_at_call 85; exact calls_grows (CST'.out _ (by first | exact GA3.out | exact GA3.out.drewN _ | exact GA3.out.xt _ _)))))
                  refine wpQuiet_nil ?_
                  rintro _ ⟨⟨O, d9⟩, rfl⟩
                  go_wp2_with fail
                  have O6 : Hid (VO BB (xt w12 O d9) (.slice vf nz vg) Z) := Lib.hid (by have := O5.out; unfold VO; rw [hnz.out]; rw [hnz.out] at this; exact Gr.owns this ((Gr.refl _).xt O d9))
                  go_roundw
                  case rel =>
                    refine ⟨q + 1, ?_, ?_, ?_, RN5.out.xt _ _, RS6.out.xt _ _, GA3.out.xt _ _⟩
                    · (try rw [QW.out]); simp
                    · have := QL.out; omega
                    · rw [E1.out]; exact O6.out
                  case measure => (try rw [QW.out]); exact meas_up QL.out
                | true =>
                  cases ru with
                  | true =>
                    have E1 : Hid (Y ++ (n.props.take (q + 1)).filterMap (extV k s) = Z) := Lib.hid (by rw [ZX.out, EB.out]; simp)
                    go_wp2_with fail
                    refine wp_region_grows (by kernel_rfl) (by kernel_rfl) ?_
                    repeat (go_big_quiet_step (first | (go_at_call 85; exact calls_grows (CST'.out _ (by first | exact GA3.out | exact GA3.out.drewN _ | exact GA3.out.xt _ _)))))
                    refine wpQuiet_nil ?_
                    rintro _ ⟨⟨O, d9⟩, rfl⟩
                    go_wp2_with fail
                    have O6 : Hid (VO BB (xt w12 O d9) (.slice vf nz vg) Z) := Lib.hid (by have := O5.out; unfold VO; rw [hnz.out]; rw [hnz.out] at this; exact Gr.owns this ((Gr.refl _).xt O d9))
                    go_roundw
                    case rel =>
                      refine ⟨q + 1, ?_, ?_, ?_, RN5.out.xt _ _, RS6.out.xt _ _, GA3.out.xt _ _⟩
                      · (try rw [QW.out]); simp
                      · have := QL.out; omega
                      · rw [E1.out]; exact O6.out
                    case measure => (try rw [QW.out]); exact meas_up QL.out
                  | false =>
                    cases sb2 with
                    | true =>
                      have E1 : Hid (Y ++ (n.props.take (q + 1)).filterMap (extV k s) = Z) := Lib.hid (by rw [ZX.out, EB.out]; simp)
                      go_wp2_with fail
                      refine wp_region_grows (by kernel_rfl) (by kernel_rfl) ?_
                      repeat (go_big_quiet_step (first | (go_at_call 85; exact calls_grows (CST'.out _ (by first | exact GA3.out | exact GA3.out.drewN _ | exact GA3.out.xt _ _)))))
                      refine wpQuiet_nil ?_
                      rintro _ ⟨⟨O, d9⟩, rfl⟩
                      go_wp2_with fail
                      have O6 : Hid (VO BB (xt w12 O d9) (.slice vf nz vg) Z) := Lib.hid (by have := O5.out; unfold VO; rw [hnz.out]; rw [hnz.out] at this; exact Gr.owns this ((Gr.refl _).xt O d9))
                      go_roundw
                      case rel =>
                        refine ⟨q + 1, ?_, ?_, ?_, RN5.out.xt _ _, RS6.out.xt _ _, GA3.out.xt _ _⟩
                        · (try rw [QW.out]); simp
                        · have := QL.out; omega
                        · rw [E1.out]; exact O6.out
                      case measure => (try rw [QW.out]); exact meas_up QL.out
                    | false =>
                      have E1 : Hid (Y ++ (n.props.take (q + 1)).filterMap (extV k s) = Z ++ [⟨6, k, s.comp, p.name⟩]) := Lib.hid (by rw [ZX.out, EB.out]; simp)
                      go_wp2_with fail
                      refine wp_region_grows (by kernel_rfl) (by kernel_rfl) ?_
                      repeat (go_big_quiet_step (first | (go_at_call 85; exact calls_grows (CST'.out _ (by first | exact GA3.out | exact GA3.out.drewN _ | exact GA3.out.xt _ _)))))
                      refine wpQuiet_nil ?_
                      rintro _ ⟨⟨O, d9⟩, rfl⟩
                      show Exit.then _ _ _ _ (xt w12 O d9)
                      obtain ⟨W13, hW13⟩ : ∃ W : World, Hid (W = xt w12 O d9) := ⟨_, Lib.hid rfl⟩
                      have G13 : Hid (Gr w12 W13) := Lib.hid (by rw [hW13.out]; exact (Gr.refl _).xt O d9)
                      rw [← hW13.out]
                      have RN2 := Lib.hid (RN5.out.gr G13.out)
                      have RS2 := Lib.hid (RS6.out.gr G13.out)
                      have RP7 := Lib.hid (RP6.out.gr G13.out)
                      have GA4 := Lib.hid (GA3.out.trans G13.out)
                      have OZ : Hid (W13.ownsRow BB 36 4 (.slice vf nz vg) nz (Z.flatMap Vio.enc)) := Lib.hid (by have := O5.out; rw [hnz.out] at this; exact Gr.owns this G13.out)
                      have SZ : Hid (BB ≤ W13.heap.size) := Lib.hid (by have := GA4.out.size; have := hBB.out; omega)
                      clear hW13 s0 s1 q0 hs1 hq0 hgl
                      have s0 := RS2.out.cell 0 (by simp)
                      have q0 := RP7.out.cell 0 (by simp)
                      simp only [List.getElem_cons_zero, List.getElem_cons_succ] at s0 q0
                      have hs0 := has_of_cell s0
                      have hq0 := has_of_cell q0
                      have OA := Lib.hid (Gr.owns OZ.out ((Gr.refl W13).alloc (.cells #[.int .i64 6, .int .i64 (k : Int), .string (bs s.comp), .string (bs p.name)] 36)))
                      have NR := Lib.hid (row_cells (Row.new W13 #[.int .i64 6, .int .i64 (k : Int), .string (bs s.comp), .string (bs p.name)] 36))
                      go_wp2_with (at_builtin; refine wpList_append_own _ rfl _ _ 31 rfl BB 36 i0 (.agg #[.int .i64 0, .int .i64 0, .string (bs []), .string (bs [])]) 4 48 Tryz.underlying31 hi hz0 hz1 hz2 rfl (by decide) _ nz ((Z).flatMap Vio.enc) rfl OA.out ⟨(W13).heap.size, 0, none⟩ 1 1 (Vio.enc ⟨6, k, s.comp, p.name⟩) rfl rfl NR.out (Vio.enc_one _) (by unfold maxLen; have := NB.out; omega) (by have := NB.out; omega) (by have := SZ.out; simp; omega) ?_; intro v' wz hown' hgrow hnil; have HOz := Lib.hid hown'; have HGz := Lib.hid hgrow; clear hown' hgrow hnil)
                      have O6 := Lib.hid (VO.push (y := ⟨6, k, s.comp, p.name⟩) HOz.out hnz.out)
                      have G6 := Lib.hid ((GA4.out.alloc (.cells #[.int .i64 6, .int .i64 (k : Int), .string (bs s.comp), .string (bs p.name)] 36)).grown HGz.out (fun j e => by have := (owns_block OA.out j e).1; have := hBB.out; omega))
                      have RN7 := Lib.hid ((RN2.out.alloc (.cells #[.int .i64 6, .int .i64 (k : Int), .string (bs s.comp), .string (bs p.name)] 36)).kept HGz.out ((RN2.out.alloc (.cells #[.int .i64 6, .int .i64 (k : Int), .string (bs s.comp), .string (bs p.name)] 36)).ty.ne OA.out (by decide)))
                      have RS7 := Lib.hid ((RS2.out.alloc (.cells #[.int .i64 6, .int .i64 (k : Int), .string (bs s.comp), .string (bs p.name)] 36)).kept HGz.out ((RS2.out.alloc (.cells #[.int .i64 6, .int .i64 (k : Int), .string (bs s.comp), .string (bs p.name)] 36)).ty.ne OA.out (by decide)))
                      clear OA NR HOz HGz s0 q0 hs0 hq0
                      go_roundw
                      case rel =>
                        refine ⟨q + 1, ?_, ?_, ?_, RN7.out, RS7.out, G6.out⟩
                        · (try rw [QW.out]); simp
                        · have := QL.out; omega
                        · rw [E1.out]; exact O6.out
                      case measure => (try rw [QW.out]); exact meas_up QL.out
              · obtain rfl : np = q := by omega
                have YE : Hid (Y ++ (n.props.take np).filterMap (extV k s) = vioF ts l (k + 1)) := Lib.hid (by rw [← hnp.out, List.take_length, NX2.out])
                rw [YE.out] at O4
                have YE2 := congrArg List.length YE.out
                rw [YE2]
                clear YE2
                go_wp2_with fail
                go_roundw
                case rel => exact ⟨k + 1, by (try rw [KW.out]); simp, by have := HLT.out; omega, O4.out, HG3.out⟩
                case measure => (try rw [KW.out]); exact meas_up HLT.out
    · obtain rfl : k = m := by omega
      go_wp2_with fail
      rw [HP0.out]
      have e : vioT ts l = vioF ts l k := by unfold vioT; rw [hm.out]
      rw [e]
      exact ⟨_, rfl, owns_low OX.out (by have := GW.out.size; have := hBB.out; omega), GW.out.trans HG.out⟩
theorem or2_any0 (x y z : Int) (cap : Nat) (w : World) (B : Nat) (hr : Row w B 32 [.int .i64 x, .int .i64 y]) (hz : (x = 0 ∧ z = y) ∨ (x ≠ 0 ∧ z = x)) :
    Calls Tryz.prog 41 #[.slice (some ⟨B, 0, none⟩) 2 cap] w (Grows w (.int .i64 z)) := by
  have HR := Lib.hid hr
  have HZ := Lib.hid hz
  clear hr hz
  go_enter Tryz.func41, Tryz.ntmps41
  go_wp2_with fail
  go_loopw [8] (fun i wr => ∃ k : Nat, k ≤ 2 ∧ i = .int .i64 k ∧ (0 < k → x = 0) ∧ (1 < k → y = 0) ∧ Gr w wr) (fun i _ => 2 - (intOf i).toNat)
  case atStart => exact ⟨0, by omega, rfl, fun h => absurd h (by omega), fun h => absurd h (by omega), Gr.refl _⟩
  case round =>
    obtain ⟨k, hk, rfl, h0, h1, hg⟩ := hrel
    have HG := Lib.hid hg
    have K0 := Lib.hid h0
    have K1 := Lib.hid h1
    clear hg h0 h1
    by_cases hlt : k < 2
    · obtain ⟨v, hv⟩ : ∃ v : Int, Hid (([x, y] : List Int)[k]? = some v) := by
        obtain rfl | rfl : k = 0 ∨ k = 1 := by omega
        · exact ⟨x, Lib.hid rfl⟩
        · exact ⟨y, Lib.hid rfl⟩
      have c0 : wr.cell? ⟨B, k, none⟩ = some (.int .i64 v) := by
        have q := hv.out
        obtain rfl | rfl : k = 0 ∨ k = 1 := by omega
        · have e : x = v := by simpa using q
          rw [← e]; exact (HR.out.gr HG.out).cell 0 (by simp)
        · have e : y = v := by simpa using q
          rw [← e]; exact (HR.out.gr HG.out).cell 1 (by simp)
      have hh := has_of_cell c0
      have kk : (k : Int) < 2 := by omega
      by_cases hv0 : v = 0
      · subst hv0
        go_wp2_with fail
        go_roundw
        case rel =>
          refine ⟨k + 1, by omega, by go_num, fun _ => ?_, fun _ => ?_, HG.out⟩
          · by_cases e : k = 0
            · subst e; simpa using hv.out
            · exact K0.out (by omega)
          · have e : k = 1 := by omega
            subst e; simpa using hv.out
        case measure => simp [intOf]; omega
      · have hb1 : (v == 0) = false := by rw [beq_eq_false_iff_ne]; exact hv0
        have hb2 : (v != 0) = true := by rw [bne_iff_ne]; exact hv0
        have Z : Hid (z = v) := Lib.hid (by
          have q := hv.out
          obtain rfl | rfl : k = 0 ∨ k = 1 := by omega
          · have e : x = v := by simpa using q
            subst e
            rcases HZ.out with ⟨h, _⟩ | ⟨_, h⟩
            · exact absurd h hv0
            · exact h
          · have e : y = v := by simpa using q
            subst e
            rcases HZ.out with ⟨_, h⟩ | ⟨h, _⟩
            · exact h
            · exact absurd (K0.out (by omega)) h)
        go_wp2_with fail
        go_ret
        exact ⟨ret_int (by rw [Z.out]), HG.out⟩
    · obtain rfl : k = 2 := by omega
      have Z : Hid (z = 0) := Lib.hid (by
        rcases HZ.out with ⟨_, h⟩ | ⟨h, _⟩
        · rw [h]; exact K1.out (by omega)
        · exact absurd (K0.out (by omega)) h)
      go_wp2_with fail
      go_ret
      exact ⟨ret_int (by rw [Z.out]), HG.out⟩
/-! The sort. -/
abbrev SQ := SM × Option Addr × Nat × Nat
def SQ.enc (p : SQ) : List Value := [.string (bs p.1.comp), .bool p.1.closed, .slice p.2.1 p.2.2.1 p.2.2.2]
instance : Inhabited SM := ⟨⟨[], false, [], .slice none 0 0⟩⟩
def GivesVios (L : List Vio) (w : World) (e : Ending) (w' : World) : Prop := ∃ v, e = .returned (.tuple #[v, .int .i64 0]) ∧ VO w.heap.size w' v L ∧ Gr w w'
structure SchGood (l : List Sch) : Prop where
  ok : SchOk l
  sml : ∀ s ∈ l, SmlS s
  chk : chkSch l = 0
theorem violations_any (ts : Tr) (ta : Option Addr) (tc : Nat) (l : List Sch) (sa : Option Addr) (sc : Nat) (w : World) (h : SlOf 3 RNod w ta ts) (hc : chkT ts = 0) (hs : SlOf 3 RSch w sa l) (hl : SchGood l) (hM : MaxV w) (hV : StdV w) (hn : (vioT ts l).length ≤ 200) :
    Calls Tryz.prog 11 #[.agg #[.slice ta ts.length tc], .slice sa l.length sc] w (GivesVios (vioT ts l) w) := by
  have H := Lib.hid h
  have HC := Lib.hid hc
  have HS := Lib.hid hs
  have HL := Lib.hid hl
  have HM := Lib.hid hM
  have HV := Lib.hid hV
  have HN := Lib.hid hn
  have T120 := Lib.hid (good_of hc).len.2
  clear h hc hs hl hM hV hn
  obtain ⟨P0, hP0⟩ : ∃ P : Ending → World → Prop, P = GivesVios (vioT ts l) w := ⟨_, rfl⟩
  rw [← hP0]
  have HP0 := Lib.hid hP0
  clear hP0
  go_enter Tryz.func11, Tryz.ntmps11
  go_upto_region 1 with (fail)
  have RT := Lib.hid (Row.new w #[.slice ta ts.length tc] 29)
  obtain ⟨W, hW⟩ : ∃ W : World, Hid (W = w.alloc (.cells #[.slice ta ts.length tc] 29)) := ⟨_, Lib.hid rfl⟩
  have GW : Hid (Gr w W) := Lib.hid (by rw [hW.out]; exact (Gr.refl _).alloc _)
  rw [← hW.out] at RT ⊢
  obtain ⟨PT, hPT⟩ : ∃ N : Nat, Hid (w.heap.size = N) := ⟨_, Lib.hid rfl⟩
  rw [hPT.out] at RT ⊢
  clear hW hPT
  have TC := treeCheck_any ts ta tc W (H.out.gr RNod.mono GW.out) (by unfold Fit; have := T120.out; omega)
  rw [HC.out] at TC
  have TC := Lib.hid TC
  have x0 := RT.out.cell 0 (by simp)
  simp only [List.getElem_cons_zero] at x0
  have hx := has_of_cell x0
  go_wp2_with fail
  refine TC.out.mono ?_
  rintro e w1 ⟨rfl, hg1⟩
  have G1 := Lib.hid (GW.out.trans hg1)
  have RT1 := Lib.hid (RT.out.gr hg1)
  clear hg1 TC x0 hx
  have SCK := check_any l sa sc w1 (HS.out.giC G1.out) HL.out.ok.1 HL.out.sml
  rw [HL.out.chk] at SCK
  have SCK := Lib.hid SCK
  go_wp2_with fail
  refine SCK.out.mono ?_
  rintro e w2 ⟨rfl, hg2⟩
  have G2 := Lib.hid (G1.out.trans hg2)
  have RT2 := Lib.hid (RT1.out.gr hg2)
  clear hg2 SCK
  go_wp2_with fail
  have RO := Lib.hid (Row.new w2 #[.int .i64 0, .int .i64 0] 32)
  refine (or2_any0 0 0 0 _ _ _ RO.out (.inl ⟨rfl, rfl⟩)).mono ?_
  rintro e w3 ⟨rfl, hg3⟩
  have G3 : Hid (Gr w w3) := Lib.hid ((G2.out.alloc _).trans hg3)
  have RT3 := Lib.hid ((RT2.out.alloc (.cells #[.int .i64 0, .int .i64 0] 32)).gr hg3)
  clear hg3 RO
  have VC := Lib.hid (vios_any ts ta tc l sa sc w3 (H.out.gr RNod.mono G3.out) HC.out (HS.out.giC G3.out) HL.out.ok (HM.out.gr G3.out) (HV.out.gr G3.out))
  obtain ⟨L, hL⟩ : ∃ L, vioT ts l = L := ⟨_, rfl⟩
  rw [hL] at VC HN HP0
  clear hL
  have x0 := RT3.out.cell 0 (by simp)
  simp only [List.getElem_cons_zero] at x0
  have hx := has_of_cell x0
  go_wp2_with fail
  refine VC.out.mono ?_
  rintro e w4 ⟨v, rfl, hv, hg4⟩
  obtain ⟨a, c, rfl⟩ := hv.form
  have VV := Lib.hid (show VO w.heap.size w4 _ L from owns_low hv G3.out.size)
  have G4 := Lib.hid (G3.out.trans hg4)
  clear hv hg4 VC x0 hx
  obtain ⟨n, hn⟩ : ∃ n : Nat, Hid (L.length = n) := ⟨_, Lib.hid rfl⟩
  have n2 : ¬ ((200 : Int) < (n : Int)) := by have := HN.out; have := hn.out; omega
  have N2 : ((n : Int)) ≤ 200 := by omega
  have VV2 : Hid (VO w.heap.size w4 (.slice a n c) L) := Lib.hid (by have := VV.out; rw [hn.out] at this; exact this)
  rw [hn.out]
  clear n2 VV
  go_wp2_with fail
  rw [HP0.out]
  exact ⟨_, rfl, VV2.out, G4.out⟩

theorem prop_len {s : St} (h : propOk s = true) : s.length ≤ 100 := by
  unfold propOk nameOk at h
  simp only [Bool.and_eq_true, decide_eq_true_eq] at h
  have : (undr s).length = s.length := by
    unfold undr
    split
    · cases s with
      | nil => simp at *
      | cons a b => rfl
    · rfl
  omega
theorem rule_name {r : Rul} (h : ruleP r = true) : r.name.length ≤ 100 := by
  unfold ruleP at h
  simp only [Bool.and_eq_true] at h
  exact prop_len h.1.1.1.1.1.1
theorem vis_len {s : St} (h : visP s = true) : s.length ≤ 31 := by
  unfold visP at h
  simp only [Bool.and_eq_true, decide_eq_true_eq] at h
  exact h.2
theorem comps_vis : compsL.all visP = true := by kernel_rfl
def subs : List St → List (List St)
  | [] => [[]]
  | a :: l => subs l ++ (subs l).map (a :: ·)
theorem mem_subs : ∀ {l m : List St}, l.Sublist m → l ∈ subs m
  | _, _, .slnil => by simp [subs]
  | _, _, .cons a h => by unfold subs; exact List.mem_append_left _ (mem_subs h)
  | _, _, .cons_cons a h => by unfold subs; exact List.mem_append_right _ (List.mem_map.2 ⟨_, mem_subs h, rfl⟩)
theorem subs_asc : (subs compsL).all (fun l => ascN l && decide (l.length ≤ 4)) = true := by kernel_rfl
structure GoodD (s : Sch) : Prop where
  rls : ∀ r ∈ s.rules, ruleP r = true
  asc : ascN (s.rules.map Rul.name) = true
  few : s.rules.length ≤ 3
  nam : ∀ r ∈ s.rules, r.name ∈ propsL
theorem good_chk {l : List Sch} (hs : (l.map Sch.comp).Sublist compsL) (hg : ∀ s ∈ l, GoodD s) : chkSch l = 0 := by
  have h1 := List.all_eq_true.1 subs_asc _ (mem_subs hs)
  simp only [Bool.and_eq_true, decide_eq_true_eq, List.length_map] at h1
  have hv : ∀ s ∈ l, visP s.comp = true := fun s hs2 => List.all_eq_true.1 comps_vis _ (hs.subset (List.mem_map_of_mem hs2))
  unfold chkSch
  rw [if_neg, if_neg, if_neg, if_pos h1.1]
  · rw [List.any_eq_true]
    rintro ⟨s, hm, q⟩
    rw [(hg s hm).asc] at q; cases q
  · rw [List.any_eq_true]
    rintro ⟨s, hm, q⟩
    rw [hv s hm, Bool.not_true, Bool.false_or, List.any_eq_true] at q
    obtain ⟨r, hr, q⟩ := q
    rw [(hg s hm).rls r hr] at q; cases q
  · rw [List.any_eq_true]
    rintro (q | ⟨s, hm, q⟩)
    · omega
    · have := (hg s hm).few
      simp at q; omega
theorem good_data {base : Nat} {w : World} {s : SM} (h : GoodS base s) (hr : RlsAt base w s) : GoodD s.sch := by
  refine ⟨fun r hr2 => ?_, ?_, by simp only [SM.sch, List.length_map]; exact h.few, fun r hr2 => ?_⟩
  · obtain ⟨x, hx, rfl⟩ := List.mem_map.1 hr2
    exact (hr.ok x hx).1
  · have := h.asc
    simp only [SM.sch, List.map_map]
    exact this
  · obtain ⟨x, hx, rfl⟩ := List.mem_map.1 hr2
    exact (h.nam x hx).1
theorem comp_sch (out : List SM) : (out.map SM.sch).map Sch.comp = out.map SM.comp := by rw [List.map_map]; rfl
theorem good_sml {l : List Sch} (hs : (l.map Sch.comp).Sublist compsL) (hg : ∀ s ∈ l, GoodD s) : ∀ s ∈ l, SmlS s := by
  intro s hm
  have hv : visP s.comp = true := List.all_eq_true.1 comps_vis _ (hs.subset (List.mem_map_of_mem hm))
  have hvl := vis_len hv
  refine ⟨by omega, by have := (hg s hm).few; omega, fun r hr => ?_⟩
  have h := (hg s hm).rls r hr
  have hn := rule_name h
  have hwl := words_len h
  have hw : r.words.all visP = true := by unfold ruleP at h; simp only [Bool.and_eq_true] at h; exact h.2
  exact ⟨by omega, by omega, fun y hy => by have := vis_len (List.all_eq_true.1 hw y hy); omega⟩
theorem good10 {l : List Sch} (hs : (l.map Sch.comp).Sublist compsL) (hg : ∀ s ∈ l, GoodD s) : SchGood l := by
  refine ⟨⟨?_, fun s hm => ⟨by have := (hg s hm).few; omega, fun r hr => by have := words_len ((hg s hm).rls r hr); omega⟩⟩, good_sml hs hg, good_chk hs hg⟩
  have := hs.length_le
  rw [List.length_map] at this
  have h4 : compsL.length = 4 := rfl
  omega
def ranS : St := [114, 97, 110, 103, 101, 115]
def pO (name : Bool) : St := if name = true then ranS else exS
theorem pO_ph (b : Bool) : pO b ≠ phS := by cases b <;> decide
theorem pO_cmp (b : Bool) : pO b ≠ cmpN := by cases b <;> decide
theorem pO_names (b : Bool) : pO b ∈ namesV := by
  have q : ∀ b : Bool, namesV.contains (pO b) = true := by intro b; cases b <;> kernel_rfl
  simpa using q b
theorem pO_prop {b : Bool} {s : St} (h : s ∈ propsL) : s ≠ pO b := by
  have q : ∀ b : Bool, propsL.contains (pO b) = false := by intro b; cases b <;> kernel_rfl
  rintro rfl
  have := q b
  rw [List.contains_iff_mem.2 h] at this
  cases this
theorem exS_prop {s : St} (h : s ∈ propsL) : s ≠ exS := pO_prop (b := false) h
theorem valP_put {q : Prp} {nm : St} (h : nm ≠ q.name) : ∀ l : List Prp, valP (putP l q) nm = valP l nm
  | [] => by
    have e : (q.name == nm) = false := by rw [beq_eq_false_iff_ne]; exact fun e => h e.symm
    simp [putP, valP, e]
  | y :: l => by
    have e : (q.name == nm) = false := by rw [beq_eq_false_iff_ne]; exact fun e => h e.symm
    have ih := valP_put h l
    unfold valP at ih ⊢
    rw [putP_cons]
    by_cases h1 : ltS y.name q.name = true
    · rw [if_pos h1, List.find?_cons, List.find?_cons]
      cases (y.name == nm) with
      | true => rfl
      | false => exact ih
    · rw [if_neg h1]
      by_cases h2 : y.name = q.name
      · rw [if_pos h2, List.find?_cons, List.find?_cons, e, h2, e]
      · rw [if_neg h2, List.find?_cons, e]
theorem con_put {q x : Prp} (h : x.name ≠ q.name) : ∀ l : List Prp, (putP l q).contains x = l.contains x
  | [] => by
    have e : (x == q) = false := by rw [beq_eq_false_iff_ne]; rintro rfl; exact h rfl
    simp [putP, e]
    rintro rfl; exact h rfl
  | y :: l => by
    have e : (x == q) = false := by rw [beq_eq_false_iff_ne]; rintro rfl; exact h rfl
    have ih := con_put h l
    rw [putP_cons]
    by_cases h1 : ltS y.name q.name = true
    · rw [if_pos h1, List.contains_cons, List.contains_cons, ih]
    · rw [if_neg h1]
      by_cases h2 : y.name = q.name
      · have e2 : (x == y) = false := by rw [beq_eq_false_iff_ne]; rintro rfl; exact h h2
        rw [if_pos h2, List.contains_cons, List.contains_cons, e, e2]
      · rw [if_neg h2, List.contains_cons, e, Bool.false_or]
theorem fm_none {β : Type} {f : Prp → Option β} {q : Prp} (hf : ∀ y : Prp, y.name = q.name → f y = none) : ∀ l : List Prp, (putP l q).filterMap f = l.filterMap f
  | [] => by simp [putP, hf q rfl]
  | y :: l => by
    have ih := fm_none hf l
    rw [putP_cons]
    by_cases h1 : ltS y.name q.name = true
    · rw [if_pos h1, List.filterMap_cons, List.filterMap_cons, ih]
    · rw [if_neg h1]
      by_cases h2 : y.name = q.name
      · rw [if_pos h2, List.filterMap_cons, List.filterMap_cons, hf q rfl, hf y h2]
      · rw [if_neg h2, List.filterMap_cons, hf q rfl]
theorem fm_new {β : Type} {f : Prp → Option β} {q : Prp} : ∀ l : List Prp, (∀ y ∈ l, y.name ≠ q.name) → ((putP l q).filterMap f).length = (l.filterMap f).length + (f q).toList.length
  | [], _ => by
    simp only [putP, List.takeWhile_nil, List.dropWhile_nil, List.nil_append, List.filterMap_cons, List.filterMap_nil]
    cases f q <;> rfl
  | y :: l, hn => by
    have ih := fm_new (f := f) l (fun z hz => hn z (List.mem_cons_of_mem _ hz))
    rw [putP_cons]
    by_cases h1 : ltS y.name q.name = true
    · rw [if_pos h1, List.filterMap_cons, List.filterMap_cons]
      cases f y with
      | none => exact ih
      | some z => simp only [List.length_cons]; omega
    · rw [if_neg h1, if_neg (hn y (List.mem_cons_self ..)), List.filterMap_cons]
      cases f q with
      | none => rfl
      | some z => rfl
theorem fm_congr {α β : Type} {f g : α → Option β} : ∀ l : List α, (∀ x ∈ l, f x = g x) → l.filterMap f = l.filterMap g
  | [], _ => rfl
  | x :: l, h => by
    rw [List.filterMap_cons, List.filterMap_cons, h x (List.mem_cons_self ..), fm_congr l (fun y hy => h y (List.mem_cons_of_mem _ hy))]
theorem self_put (q : Prp) : ∀ l : List Prp, q ∈ putP l q
  | [] => by simp [putP]
  | y :: l => by
    rw [putP_cons]
    by_cases h1 : ltS y.name q.name = true
    · rw [if_pos h1]; exact List.mem_cons_of_mem _ (self_put q l)
    · rw [if_neg h1]; split <;> exact List.mem_cons_self ..
section
variable {ts : Tr} {l : List Sch} {k : Nat} {nm : Bool} {z : St}
def tsO (ts : Tr) (k : Nat) (nm : Bool) (z : St) : Tr := setN ts k (putP (nd ts k).props ⟨pO nm, z⟩)
theorem tsO_len : (tsO ts k nm z).length = ts.length := by unfold tsO setN; rw [List.length_set]
theorem tsO_ne {i : Nat} (h : i ≠ k) : nd (tsO ts k nm z) i = nd ts i := nd_set_ne h
theorem tsO_same (hk : k < ts.length) : nd (tsO ts k nm z) k = { nd ts k with props := putP (nd ts k).props ⟨pO nm, z⟩ } := nd_set_same hk
theorem tsO_con (hk : k < ts.length) (i : Nat) (c : St) : (nd (tsO ts k nm z) i).props.contains ⟨phS, c⟩ = (nd ts i).props.contains ⟨phS, c⟩ := by
  by_cases e : i = k
  · subst e
    rw [tsO_same hk]
    exact con_put (fun e => pO_ph nm e.symm) _
  · rw [tsO_ne e]
theorem findIdx_congr {α : Type} [Inhabited α] {p : α → Bool} : ∀ (a b : List α), a.length = b.length → (∀ i, i < a.length → p (a.getD i default) = p (b.getD i default)) → a.findIdx? p = b.findIdx? p
  | [], [], _, _ => rfl
  | [], _ :: _, h, _ => by simp at h
  | _ :: _, [], h, _ => by simp at h
  | x :: a, y :: b, h, hp => by
    have h0 := hp 0 (by simp)
    simp only [List.getD_cons_zero] at h0
    have ih := findIdx_congr a b (by simpa using h) (fun i hi => by
      have := hp (i + 1) (by simp; omega)
      simpa using this)
    rw [List.findIdx?_cons, List.findIdx?_cons, h0, ih]
theorem tsO_phan (hk : k < ts.length) (q : Int) : phan (tsO ts k nm z) q = phan ts q := by
  unfold phan
  split
  · exact findIdx_congr _ _ tsO_len (fun i hi => tsO_con hk i _)
  · rfl
theorem celBad_O (hk : k < ts.length) (r : Rul) (v : St) : celBad (tsO ts k nm z) r v = celBad ts r v := by
  unfold celBad
  rw [tsO_phan hk]
theorem brkP_O (hk : k < ts.length) (n : Nod) (r : Rul) : brkP (tsO ts k nm z) n r = brkP ts n r := by
  unfold brkP
  cases valP n.props r.name with
  | none => rfl
  | some v => dsimp only; rw [celBad_O hk]
theorem vioN_congr {ts ts' : Tr} {l : List Sch} {i : Nat} {n : Nod} (h : ∀ r, brkP ts n r = brkP ts' n r) : vioN ts l i n = vioN ts' l i n := by
  unfold vioN
  cases govP n l with
  | none => rfl
  | some j =>
    dsimp only
    congr 1
    exact congrArg (fun f => List.filterMap f _) (funext fun r => by unfold rulV; rw [h r])
def moreO (ts : Tr) (l : List Sch) (k : Nat) (nm : Bool) : Bool := match govP (nd ts k) l with
  | none => false
  | some j => (l.getD j default).closed && !nm
def scO (ts : Tr) (l : List Sch) (k : Nat) : St := match govP (nd ts k) l with
  | none => []
  | some j => (l.getD j default).comp
theorem compP_O (hk : k < ts.length) : compP (nd (tsO ts k nm z) k) = compP (nd ts k) := by
  rw [tsO_same hk]
  unfold compP
  rw [valP_put (fun e => pO_cmp nm e.symm)]
theorem govP_O (hk : k < ts.length) : govP (nd (tsO ts k nm z) k) l = govP (nd ts k) l := by
  unfold govP
  rw [compP_O hk]
theorem rul_O {j : Nat} (hg : ∀ s ∈ l, GoodD s) (hj : j < l.length) (hk : k < ts.length) :
    (l.getD j default).rules.filterMap (rulV (tsO ts k nm z) k (nd (tsO ts k nm z) k) (l.getD j default)) = (l.getD j default).rules.filterMap (rulV ts k (nd ts k) (l.getD j default)) := by
  have e : l.getD j default = l[j] := by rw [List.getD_eq_getElem?_getD, List.getElem?_eq_getElem hj]; rfl
  rw [e]
  apply fm_congr
  intro r hr
  have hn := (hg _ (List.getElem_mem hj)).nam r hr
  have hb : brkP (tsO ts k nm z) (nd (tsO ts k nm z) k) r = brkP ts (nd ts k) r := by
    rw [brkP_O hk, tsO_same hk]
    unfold brkP
    dsimp only
    rw [valP_put (pO_prop hn)]
  unfold rulV
  rw [hb]
theorem std_ran : stdS.contains ranS = true := by kernel_rfl
theorem std_ex : stdS.contains exS = false := by kernel_rfl
theorem extB_ex {s : Sch} (hs : GoodD s) {p : Prp} (hp : p.name = exS) : extB s p = s.closed := by
  unfold extB
  have h1 : s.rules.any (fun r => r.name == p.name) = false := by
    rw [List.any_eq_false]
    intro r hr
    have := exS_prop (hs.nam r hr)
    rw [hp]
    simpa using this
  rw [h1, hp, std_ex]
  simp
theorem ext_O {s : Sch} (GS : GoodD s) (hx : NoX ts) : ((putP (nd ts k).props ⟨pO nm, z⟩).filterMap (extV k s)).length = ((nd ts k).props.filterMap (extV k s)).length + (if (s.closed && !nm) = true then 1 else 0) := by
  cases nm with
  | true =>
    rw [fm_none (fun y hy => ?_)]
    · simp
    · unfold extV extB
      rw [show y.name = ranS from hy, std_ran]
      simp
  | false =>
    rw [fm_new _ (fun y hy => hx k y hy)]
    congr 1
    unfold extV
    rw [extB_ex GS rfl]
    cases s.closed <;> rfl
theorem vioN_O (hg : ∀ s ∈ l, GoodD s) (hx : NoX ts) (hk : k < ts.length) : (vioN (tsO ts k nm z) l k (nd (tsO ts k nm z) k)).length = (vioN ts l k (nd ts k)).length + (if moreO ts l k nm = true then 1 else 0) := by
  unfold vioN moreO
  rw [govP_O hk, compP_O hk]
  cases e : govP (nd ts k) l with
  | none => rfl
  | some j =>
    have hj := govF_lt e
    dsimp only
    rw [List.length_append, List.length_append, rul_O hg hj hk, Nat.add_assoc]
    congr 1
    have e2 : l.getD j default = l[j] := by rw [List.getD_eq_getElem?_getD, List.getElem?_eq_getElem hj]; rfl
    have GS : GoodD (l.getD j default) := by rw [e2]; exact hg _ (List.getElem_mem hj)
    rw [tsO_same hk]
    exact ext_O GS hx
theorem vioF_O (hg : ∀ s ∈ l, GoodD s) (hx : NoX ts) (hk : k < ts.length) : ∀ K, (vioF (tsO ts k nm z) l K).length = (vioF ts l K).length + (if k < K ∧ moreO ts l k nm = true then 1 else 0)
  | 0 => by simp [vioF]
  | K + 1 => by
    have ih := vioF_O hg hx hk K
    rw [vioF, vioF, List.length_append, List.length_append, ih]
    by_cases e : K = k
    · subst e
      rw [vioN_O hg hx hk, if_neg (by omega)]
      by_cases hm : moreO ts l K nm = true
      · rw [if_pos hm, if_pos ⟨by omega, hm⟩]; omega
      · rw [if_neg hm, if_neg (fun q => hm q.2)]; omega
    · rw [tsO_ne e, vioN_congr (fun r => brkP_O hk _ r)]
      by_cases hm : k < K ∧ moreO ts l k nm = true
      · rw [if_pos hm, if_pos ⟨by omega, hm.2⟩]; omega
      · rw [if_neg hm, if_neg (fun q => hm ⟨by omega, q.2⟩)]; omega
theorem open_len (hg : ∀ s ∈ l, GoodD s) (hx : NoX ts) (hk : k < ts.length) : (vioT (tsO ts k nm z) l).length = (vioT ts l).length + (if moreO ts l k nm = true then 1 else 0) := by
  unfold vioT
  rw [vioF_O hg hx hk, tsO_len]
  simp [hk]
theorem mem_vioF {ts : Tr} {l : List Sch} {y : Vio} : ∀ {K : Nat}, y ∈ vioF ts l K ↔ ∃ i, i < K ∧ y ∈ vioN ts l i (nd ts i)
  | 0 => by simp [vioF]
  | K + 1 => by
    rw [vioF, List.mem_append, mem_vioF]
    constructor
    · rintro (⟨i, h1, h2⟩ | h)
      · exact ⟨i, by omega, h2⟩
      · exact ⟨K, by omega, h⟩
    · rintro ⟨i, h1, h2⟩
      rcases Nat.lt_or_ge i K with q | q
      · exact .inl ⟨i, q, h2⟩
      · obtain rfl : i = K := by omega
        exact .inr h2
theorem open_has (hg : ∀ s ∈ l, GoodD s) (hx : NoX ts) (hk : k < ts.length) : (vioT (tsO ts k nm z) l).contains ⟨6, k, scO ts l k, exS⟩ = moreO ts l k nm := by
  rw [Bool.eq_iff_iff, List.contains_iff_mem]
  unfold vioT
  rw [mem_vioF]
  have key : (∃ i, i < (tsO ts k nm z).length ∧ (⟨6, k, scO ts l k, exS⟩ : Vio) ∈ vioN (tsO ts k nm z) l i (nd (tsO ts k nm z) i)) ↔ (⟨6, k, scO ts l k, exS⟩ : Vio) ∈ vioN (tsO ts k nm z) l k (nd (tsO ts k nm z) k) := by
    constructor
    · rintro ⟨i, _, h⟩
      have h1 := (vioN_fac h).1
      have h2 : (k : Int) = i := h1
      obtain rfl : k = i := by omega
      exact h
    · intro h
      exact ⟨k, by rw [tsO_len]; exact hk, h⟩
  rw [key]
  unfold vioN moreO scO
  rw [govP_O hk, compP_O hk]
  cases e : govP (nd ts k) l with
  | none =>
    dsimp only
    constructor
    · intro h
      cases e2 : compP (nd ts k) with
      | nil => rw [e2] at h; cases h
      | cons c cs =>
        rw [e2] at h
        have := congrArg Vio.kind (List.mem_singleton.1 h)
        cases this
    · intro h; cases h
  | some j =>
    have hj := govF_lt e
    have e2 : l.getD j default = l[j] := by rw [List.getD_eq_getElem?_getD, List.getElem?_eq_getElem hj]; rfl
    have GS := hg _ (List.getElem_mem hj)
    dsimp only
    rw [e2, tsO_same hk, List.mem_append]
    constructor
    · rintro (h | h)
      · obtain ⟨r, hr, he⟩ := List.mem_filterMap.1 h
        have h1 := (rulV_prop r _ he).1
        exact absurd h1.symm (exS_prop (GS.nam r hr))
      · obtain ⟨p, hp, he⟩ := List.mem_filterMap.1 h
        obtain ⟨h1, _, _, _, h5⟩ := extV_prop p _ he
        have h1 : exS = p.name := h1
        rw [extB_ex GS h1.symm] at h5
        rw [h5]
        cases nm with
        | false => rfl
        | true =>
          rcases mem_putP hp with q | q
          · rw [q] at h1
            exact absurd (show exS = ranS from h1) (by decide)
          · exact absurd h1.symm (hx k p q)
    · intro h
      rw [Bool.and_eq_true] at h
      obtain ⟨h1, h2⟩ := h
      have h3 : nm = false := by simpa using h2
      subst h3
      refine .inr (List.mem_filterMap.2 ⟨⟨exS, z⟩, self_put _ _, ?_⟩)
      unfold extV
      rw [extB_ex GS rfl, h1]
      rfl
end

theorem infoSch : (Tryz.prog.info? 48).map (fun i => (i.zero, i.size, i.bytes)) = some (some (.agg #[.string (bs []), .bool false, .slice none 0 0]), 3, 48) := by kernel_rfl
theorem SM.enc_one (x : SM) {a : Option Addr} {n c : Nat} (h : x.v = .slice a n c) : ∀ u ∈ x.enc, u.oneCell' = true := by
  intro u hu
  simp only [SM.enc, List.mem_cons, List.not_mem_nil, or_false] at hu
  rcases hu with q | q | q <;> subst q
  · rfl
  · rfl
  · rw [h]; rfl
end Go.Proofs.YtbpkndiecomggaaGreatDoor

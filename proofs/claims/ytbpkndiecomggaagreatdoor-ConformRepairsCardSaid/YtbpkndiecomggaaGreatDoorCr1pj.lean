/- Lemmas and contracts for the proof of ConformRepairs (several texts in one, printed by wip/tools/pack.py): VbK VbL. -/
import Derived.Test.YtbpkndiecomggaaGreatDoorCr1pi
set_option maxRecDepth 100000
set_option maxHeartbeats 16000000
set_option linter.unusedVariables false
set_option linter.unusedSimpArgs false
namespace Go.Proofs.YtbpkndiecomggaaGreatDoor
open Go.RowKit
open Classical
def GivesTE (w : World) (ts : Tr) (e : Ending) (w' : World) : Prop :=
  Gr w w' ∧ ((∃ er : Nat, 0 < er ∧ er ≤ 8 ∧ e = .returned (.tuple #[.agg #[.slice none 0 0], .int .i64 er])) ∨
    ∃ v ms, e = .returned (.tuple #[.agg #[v], .int .i64 0]) ∧ TrAt w.heap.size w' v ms ∧ VT (ms.map NM.n) ∧ (NoX ts → NoX (ms.map NM.n)) ∧ ms.length = ts.length + 1)
theorem rAdd_ok (ts : Tr) (a : Option Addr) (cap : Nat) (s x : St) (w : World) (h : SlOf 3 RNod w a ts) (hv : VT ts) (hm : x ∈ nodesV) :
    Calls Tryz.prog 98 #[.agg #[.slice a ts.length cap], .string (bs s), .string (bs x)] w (GivesTE w ts) := by
  have H := Lib.hid h
  have HV := Lib.hid hv
  have HM := Lib.hid hm
  have l1 := hv.pos
  have l2 := hv.few
  obtain ⟨i0, hi, hz0, hz1, hz2⟩ := info_parts infoNod
  have NOK := List.all_eq_true.1 nodesV_ok _ hm
  have xlen : x.length ≤ 31 := by simp at NOK; exact NOK.2
  have NM1 : nameOk x = true := by simp at NOK; exact NOK.1
  clear h hv hm NOK
  obtain ⟨P0, hP0⟩ : ∃ P : Ending → World → Prop, P = GivesTE w ts := ⟨_, rfl⟩
  rw [← hP0]
  have HP0 := Lib.hid hP0
  clear hP0
  go_enter Tryz.func98, Tryz.ntmps98
  go_upto_region 1 with (fail)
  have R1 := Lib.hid ((Row.new w #[.slice a ts.length cap] 29).alloc (.cells #[.slice none 0 0] 29))
  have R2 : Hid (Row ((w.alloc (.cells #[.slice a ts.length cap] 29)).alloc (.cells #[.slice none 0 0] 29)) (w.heap.size + 1) 29 [.slice none 0 0]) := Lib.hid (by
    have q := Row.new (w.alloc (.cells #[.slice a ts.length cap] 29)) #[.slice none 0 0] 29
    have e : (w.alloc (.cells #[.slice a ts.length cap] 29)).heap.size = w.heap.size + 1 := by simp
    rw [e] at q; exact q)
  obtain ⟨W, hW⟩ : ∃ W : World, Hid (W = (w.alloc (.cells #[.slice a ts.length cap] 29)).alloc (.cells #[.slice none 0 0] 29)) := ⟨_, Lib.hid rfl⟩
  have GW : Hid (Gr w W) := Lib.hid (by rw [hW.out]; exact ((Gr.refl _).alloc _).alloc _)
  rw [← hW.out] at R1 R2 ⊢
  obtain ⟨PB, hPB⟩ : ∃ N : Nat, Hid (w.heap.size = N) := ⟨_, Lib.hid rfl⟩
  have HPB := Lib.hid hPB.out
  rw [hPB.out] at R1 R2 ⊢
  clear hW hPB
  obtain ⟨P2, hP2⟩ : ∃ N : Nat, Hid (PB + 1 = N) := ⟨_, Lib.hid rfl⟩
  have HP2 := Lib.hid hP2.out
  rw [hP2.out] at R2 ⊢
  clear hP2
  have x0 := R1.out.cell 0 (by simp)
  have hxb := has_of_cell x0
  go_wp2_with fail
  refine (rBegin_ok ts a cap s W (H.out.gr RNod.mono GW.out) HV.out).mono ?_
  rintro e w1 ⟨hg1, hb⟩
  have G1 := Lib.hid (GW.out.trans hg1)
  have S1 := Lib.hid (R1.out.gr hg1)
  have S2 := Lib.hid (R2.out.gr hg1)
  clear hg1 x0 hxb R1 R2 GW
  rcases hb with ⟨rfl, _⟩ | ⟨k, hk, rfl, _⟩
  · have z0 := S2.out.cell 0 (by simp)
    have zf := S2.out.free 0
    have hz := has_of_cell z0
    go_wp2_with fail
    have RF := Lib.hid (S2.out.set 0 (.slice none 0 0))
    have GF : Hid (Gr w (w1.setCell ⟨P2, 0, none⟩ (.slice none 0 0))) := Lib.hid (G1.out.setc (by have := HPB.out; have := HP2.out; omega))
    obtain ⟨W3, hW3⟩ : ∃ W : World, Hid (W = w1.setCell ⟨P2, 0, none⟩ (.slice none 0 0)) := ⟨_, Lib.hid rfl⟩
    rw [← hW3.out] at RF GF ⊢
    have e0 : W3.cell? ⟨P2, 0, none⟩ = some (.slice none 0 0) := RF.out.cell 0 (by simp)
    clear hW3
    refine bodyPost_ret (v := .tuple #[.agg #[.slice none 0 0], .int .i64 4]) (by simp [results, Tryz.results98, e0, go_sem]) rfl ?_
    rw [HP0.out]
    exact ⟨GF.out, .inl ⟨4, by omega, by omega, rfl⟩⟩
  · have x0 := S1.out.cell 0 (by simp)
    have xf := S1.out.free 0
    have hx := has_of_cell x0
    have k0 : (0 : Int) ≤ k := by omega
    go_wp2_with (go_at_call 91; refine (refName_any _ _).mono ?_; rintro e w' ⟨rfl, rfl⟩; rw [NM1])
    clear x0 xf hx
    go_loopw [30] (fun i wr => ∃ j : Nat, j ≤ ts.length ∧ i = .int .i64 j ∧ (∀ m, 0 < m → m < j → pq ts m = k → nmT ts m ≠ x) ∧ Gr w1 wr) (fun i _ => ts.length - (intOf i).toNat)
    case atStart => exact ⟨0, Nat.zero_le _, rfl, fun m _ h => absurd h (by omega), Gr.refl _⟩
    case round =>
      obtain ⟨j, hj, rfl, hno, hg⟩ := hrel
      have NO := Lib.hid hno
      have HG := Lib.hid hg
      clear hno hg
      by_cases hlt : j < ts.length
      · obtain ⟨b, o, pa, pc, rfl, c0, c1, c2, hps, hpf, hw, hnl⟩ := nods_at (H.out.gr RNod.mono (G1.out.trans HG.out)) j hlt
        obtain ⟨n, hn⟩ : ∃ n, ts[j] = n := ⟨_, rfl⟩
        have NDj : Hid (nd ts j = n) := Lib.hid (by rw [nd_get hlt]; exact hn)
        have PJ : Hid (0 < j → n.parent = (pq ts j : Int)) := Lib.hid (fun h0 => by rw [← hn]; exact (HV.out.nod h0 hlt).1)
        rw [hn] at c0 c1 c2 hps hnl
        have hh := has_of_cell c0
        have jj : (j : Int) < ts.length := by omega
        clear hn hps hpf
        rcases (show (n.parent = (k : Int) ∧ n.name = x) ∨ (n.parent = (k : Int) ∧ n.name ≠ x) ∨ n.parent ≠ (k : Int) by
          by_cases hp : n.parent = (k : Int)
          · by_cases hq : n.name = x
            · exact .inl ⟨hp, hq⟩
            · exact .inr (.inl ⟨hp, hq⟩)
          · exact .inr (.inr hp)) with ⟨hp, hq⟩ | ⟨hp, hq⟩ | hp
        · have bq : (n.name == x) = true := by rw [hq]; exact beq_self_eq_true _
          have bp : (n.parent == (k : Int)) = true := by rw [hp]; exact beq_self_eq_true _
          clear hq hp
          have z0 := (S2.out.gr HG.out).cell 0 (by simp)
          have zf := (S2.out.gr HG.out).free 0
          have hz := has_of_cell z0
          go_wp2_with fail
          have RF := Lib.hid (((S2.out.gr HG.out).set 0 (.slice none 0 0)).alloc (.cells #[.int .i64 n.parent, .string (bs n.name), .slice pa n.props.length pc] 86))
          have GF : Hid (Gr w ((wr.setCell ⟨P2, 0, none⟩ (.slice none 0 0)).alloc (.cells #[.int .i64 n.parent, .string (bs n.name), .slice pa n.props.length pc] 86))) := Lib.hid (((G1.out.trans HG.out).setc (by have := HPB.out; have := HP2.out; omega)).alloc (.cells #[.int .i64 n.parent, .string (bs n.name), .slice pa n.props.length pc] 86))
          obtain ⟨W3, hW3⟩ : ∃ W : World, Hid (W = (wr.setCell ⟨P2, 0, none⟩ (.slice none 0 0)).alloc (.cells #[.int .i64 n.parent, .string (bs n.name), .slice pa n.props.length pc] 86)) := ⟨_, Lib.hid rfl⟩
          rw [← hW3.out] at RF GF ⊢
          have e0 : W3.cell? ⟨P2, 0, none⟩ = some (.slice none 0 0) := RF.out.cell 0 (by simp)
          clear hW3
          refine bodyPost_ret (v := .tuple #[.agg #[.slice none 0 0], .int .i64 5]) (by simp [results, Tryz.results98, e0, go_sem]) rfl ?_
          rw [HP0.out]
          exact ⟨GF.out, .inl ⟨5, by omega, by omega, rfl⟩⟩
        · have bq : (n.name == x) = false := by rw [beq_eq_false_iff_ne]; exact hq
          have bp : (n.parent == (k : Int)) = true := by rw [hp]; exact beq_self_eq_true _
          have NX : Hid (nmT ts j ≠ x) := Lib.hid (by unfold nmT; rw [NDj.out]; exact hq)
          clear hp hq
          go_wp2_with fail
          go_roundw
          case rel =>
            refine ⟨j + 1, by omega, by go_num, fun m m0 hmj he => ?_, HG.out.alloc _⟩
            by_cases e : m = j
            · subst e; exact NX.out
            · exact NO.out m m0 (by omega) he
          case measure => simp [intOf]; omega
        · have bp : (n.parent == (k : Int)) = false := by rw [beq_eq_false_iff_ne]; exact hp
          have NE : Hid (0 < j → pq ts j ≠ k) := Lib.hid (fun h0 e => hp (by rw [PJ.out h0, e]))
          clear hp
          go_wp2_with fail
          go_roundw
          case rel =>
            refine ⟨j + 1, by omega, by go_num, fun m m0 hmj he => ?_, HG.out.alloc _⟩
            by_cases e : m = j
            · subst e; exact absurd he (NE.out m0)
            · exact NO.out m m0 (by omega) he
          case measure => simp [intOf]; omega
      · obtain rfl : j = ts.length := by omega
        obtain ⟨d, hd8, hd⟩ := HV.out.shp.dep k hk
        have HD := Lib.hid hd
        have G2 := Lib.hid (G1.out.trans HG.out)
        have U1 := Lib.hid (S1.out.gr HG.out)
        have U2 := Lib.hid (S2.out.gr HG.out)
        have x0 := U1.out.cell 0 (by simp)
        have hx := has_of_cell x0
        clear hd S1 S2 G1
        have NO' : Hid (∀ m, 0 < m → m < ts.length → pq ts m = k → nmT ts m ≠ x) := NO
        obtain ⟨p, hip⟩ := ins_ex ts.length (pq ts) (nmT ts) k x hk
        have IP := Lib.hid hip
        clear hip
        go_wp2_with fail
        refine (level_ok ts a cap k d wr (H.out.gr RNod.mono G2.out) HV.out hk HD.out (by omega)).mono ?_
        rintro e w3 ⟨rfl, hg3⟩
        have G3 := Lib.hid (G2.out.trans hg3)
        have V1 := Lib.hid (U1.out.gr hg3)
        have V2 := Lib.hid (U2.out.gr hg3)
        clear hg3 x0 hx U1 U2 HG G2
        by_cases h8 : d = 8
        · have b8 : decide ((8 : Int) ≤ d) = true := by simp; omega
          have z0 := V2.out.cell 0 (by simp)
          have zf := V2.out.free 0
          have hz := has_of_cell z0
          clear hd8
          go_wp2_with fail
          have RF := Lib.hid (V2.out.set 0 (.slice none 0 0))
          have GF : Hid (Gr w (w3.setCell ⟨P2, 0, none⟩ (.slice none 0 0))) := Lib.hid (G3.out.setc (by have := HPB.out; have := HP2.out; omega))
          obtain ⟨W3, hW3⟩ : ∃ W : World, Hid (W = w3.setCell ⟨P2, 0, none⟩ (.slice none 0 0)) := ⟨_, Lib.hid rfl⟩
          rw [← hW3.out] at RF GF ⊢
          have e0 : W3.cell? ⟨P2, 0, none⟩ = some (.slice none 0 0) := RF.out.cell 0 (by simp)
          clear hW3
          refine bodyPost_ret (v := .tuple #[.agg #[.slice none 0 0], .int .i64 2]) (by simp [results, Tryz.results98, e0, go_sem]) rfl ?_
          rw [HP0.out]
          exact ⟨GF.out, .inl ⟨2, by omega, by omega, rfl⟩⟩
        · have b8 : decide ((8 : Int) ≤ d) = false := by simp; omega
          have d7 : d ≤ 7 := by omega
          clear hd8 h8
          have x0 := V1.out.cell 0 (by simp)
          have hx := has_of_cell x0
          by_cases hn : ts.length = 120
          · have bn : decide ((120 : Int) ≤ (ts.length : Int)) = true := by simp; omega
            have z0 := V2.out.cell 0 (by simp)
            have zf := V2.out.free 0
            have hz := has_of_cell z0
            clear l2
            go_wp2_with fail
            have RF := Lib.hid (V2.out.set 0 (.slice none 0 0))
            have GF : Hid (Gr w (w3.setCell ⟨P2, 0, none⟩ (.slice none 0 0))) := Lib.hid (G3.out.setc (by have := HPB.out; have := HP2.out; omega))
            obtain ⟨W3, hW3⟩ : ∃ W : World, Hid (W = w3.setCell ⟨P2, 0, none⟩ (.slice none 0 0)) := ⟨_, Lib.hid rfl⟩
            rw [← hW3.out] at RF GF ⊢
            have e0 : W3.cell? ⟨P2, 0, none⟩ = some (.slice none 0 0) := RF.out.cell 0 (by simp)
            clear hW3
            refine bodyPost_ret (v := .tuple #[.agg #[.slice none 0 0], .int .i64 3]) (by simp [results, Tryz.results98, e0, go_sem]) rfl ?_
            rw [HP0.out]
            exact ⟨GF.out, .inl ⟨3, by omega, by omega, rfl⟩⟩
          · have bn : decide ((120 : Int) ≤ (ts.length : Int)) = false := by simp; omega
            have l3 : ts.length < 120 := by omega
            clear hn
            have DD : Hid (∃ d, d ≤ 7 ∧ Dep (pq ts) k d) := Lib.hid ⟨d, d7, HD.out⟩
            go_wp2_with fail
            refine (copied_tr ts a cap w3 (H.out.gr RNod.mono G3.out) HV.out.sm (by omega)).mono ?_
            rintro e w4 ⟨v4, ms, rfl, htr, hmp, hg4⟩
            obtain ⟨va, vc, hv⟩ := owns_slice htr.own
            subst hv
            have G4 := Lib.hid (G3.out.trans hg4)
            have BW : Hid (PB ≤ w3.heap.size ∧ P2 < w3.heap.size) := Lib.hid (by have h1 := G3.out.size; rw [HPB.out] at h1; exact ⟨h1, V2.out.has⟩)
            have X2 := Lib.hid (V2.out.gr hg4)
            have TR := Lib.hid (htr.low BW.out.1)
            have MP := Lib.hid hmp
            have W34 := Lib.hid hg4.size
            have ML : Hid (ms.length = ts.length) := Lib.hid (by rw [← hmp, List.length_map])
            clear htr hmp hg4 x0 hx V1 V2
            have mlen : ms.length ≤ 1000 := by have := ML.out; omega
            go_upto_region 17 with (fail)
            have BX := Lib.hid (Row.new w4 #[.slice va ms.length vc] 29)
            have Y2 := Lib.hid (X2.out.alloc (.cells #[.slice va ms.length vc] 29))
            have TA := Lib.hid (TR.out.gr ((Gr.refl w4).alloc (.cells #[.slice va ms.length vc] 29)))
            have GA := Lib.hid (G4.out.alloc (.cells #[.slice va ms.length vc] 29))
            obtain ⟨WA, hWA⟩ : ∃ W : World, Hid (W = w4.alloc (.cells #[.slice va ms.length vc] 29)) := ⟨_, Lib.hid rfl⟩
            rw [← hWA.out] at BX Y2 TA GA ⊢
            obtain ⟨PX, hPX⟩ : ∃ N : Nat, Hid (w4.heap.size = N) := ⟨_, Lib.hid rfl⟩
            have HPX := Lib.hid hPX.out
            rw [hPX.out] at BX ⊢
            have PXB : Hid (PB ≤ PX ∧ P2 < PX) := Lib.hid (by have h1 := BW.out; have h2 := W34.out; rw [HPX.out] at h2; omega)
            clear hWA hPX X2 TR G4
            have b0 : WA.cell? ⟨PX, 0, none⟩ = some (.slice va ms.length vc) := BX.out.cell 0 (by simp)
            have bf := BX.out.free 0
            have hb := has_of_cell b0
            have ga : Hid (Gr WA (WA.alloc (.cells #[.int .i64 k, .string (bs x), .slice none 0 0] 86))) := Lib.hid ((Gr.refl WA).alloc _)
            have OWX := Lib.hid (TA.out.own.alloc (.cells #[.int .i64 k, .string (bs x), .slice none 0 0] 86))
            have NR := Lib.hid (row_cells (Row.new WA #[.int .i64 k, .string (bs x), .slice none 0 0] 86))
            go_wp2_with (at_builtin; refine wpList_append_own _ rfl _ _ 27 rfl PB 86 i0 (.agg #[.int .i64 0, .string (bs []), .slice none 0 0]) 3 48 Tryz.underlying27 hi hz0 hz1 hz2 rfl (by decide) _ ms.length (ms.flatMap NM.enc) rfl OWX.out ⟨WA.heap.size, 0, none⟩ 1 1 [.int .i64 k, .string (bs x), .slice none 0 0] rfl rfl NR.out (NM.enc_one ⟨⟨k, x, []⟩, none, 0⟩) (by unfold maxLen; omega) (by omega) (by have h1 := GA.out.size; have h2 := HPB.out; simp; omega) ?_; intro v' wz hown' hgrow hnil; obtain ⟨y5, k5, rfl⟩ := owns_slice hown'; have HOz := Lib.hid hown'; have HGz := Lib.hid hgrow; have SB := Lib.hid (((BX.out.gr ga.out)).kept hgrow ((BX.out.gr ga.out).ty.ne OWX.out (by decide))); have q0 := SB.out.cell 0 (by simp); have qf := SB.out.free 0; have hq := has_of_cell q0; clear hown' hgrow hnil)
            have NDm : Hid (NdAt PB (WA.alloc (.cells #[.int .i64 k, .string (bs x), .slice none 0 0] 86)) ⟨⟨k, x, []⟩, none, 0⟩) := Lib.hid ⟨World.ownsRow_nil _ _ _ _, ⟨by simp, by simp; omega, by simp; omega, by simp, fun p hp => by cases hp⟩⟩
            have TN := Lib.hid ((TA.out.gr ga.out).snoc (m := ⟨⟨k, x, []⟩, none, 0⟩) HGz.out HOz.out NDm.out)
            have Y3 := Lib.hid ((Y2.out.gr ga.out).kept HGz.out ((Y2.out.gr ga.out).ty.ne OWX.out (by decide)))
            have GZ := Lib.hid ((GA.out.trans ga.out).grown HGz.out (fun j e => by rw [HPB.out]; exact (owns_block OWX.out j e).1))
            have T7 := Lib.hid (TN.out.box (o := 0) (u := .slice y5 (ms.length + 1) k5) SB.out.ty (by decide) (TN.out.ne_ty SB.out.ty (by decide)))
            have Y4 := Lib.hid (Y3.out.oth (b := PX) (v := .slice y5 (ms.length + 1) k5) (o := 0) (by have := PXB.out; omega))
            have G7 : Hid (Gr w (wz.setCell ⟨PX, 0, none⟩ (.slice y5 (ms.length + 1) k5))) := Lib.hid (GZ.out.setc (by have := PXB.out; have := HPB.out; omega))
            obtain ⟨W7, hW7⟩ : ∃ W : World, Hid (W = wz.setCell ⟨PX, 0, none⟩ (.slice y5 (ms.length + 1) k5)) := ⟨_, Lib.hid rfl⟩
            rw [← hW7.out] at T7 Y4 G7 ⊢
            clear hW7 q0 qf hq TN Y3 GZ SB HGz HOz NR OWX ga b0 bf hb BX Y2 TA GA NDm
            have MN : Hid ((ms ++ [(⟨⟨k, x, []⟩, none, 0⟩ : NM)]).map NM.n = newT ts k x) := Lib.hid (by rw [List.map_append, MP.out]; rfl)
            refine (sorted_tr (ms ++ [⟨⟨k, x, []⟩, none, 0⟩]) (ms.length + 1) (ordL ts.length p) (pim ts.length p) PB y5 k5 W7 T7.out (by have h1 := G7.out.size; rw [HPB.out] at h1; exact h1) (by have := ML.out; omega) (by omega) (by rw [MN.out]; exact parOk_new HV.out hk) (by rw [MN.out]; exact walkLen_new HV.out hk NO'.out DD.out IP.out) (by rw [MN.out, ML.out]; exact walk_ordL HV.out hk NO'.out DD.out IP.out) (by rw [ML.out]; exact perm_ordL IP.out.hi)).mono ?_
            rintro e w8 ⟨v8, m8, rfl, ht8, hm8, hg8⟩
            obtain ⟨ya, yc, hv⟩ := owns_slice ht8.own
            subst hv
            have T8 := Lib.hid ht8
            have M8 : Hid (m8.map NM.n = addT ts k x p) := Lib.hid (by rw [hm8, MN.out]; rfl)
            have G8 := Lib.hid (G7.out.trans hg8)
            have Y8 := Lib.hid (Y4.out.gr hg8)
            clear ht8 hm8 hg8 T7 Y4 G7
            have z0 := Y8.out.cell 0 (by simp)
            have zf := Y8.out.free 0
            have hz := has_of_cell z0
            go_wp2_with fail
            have L8 : Hid (m8.length = ts.length + 1) := Lib.hid (by have h1 := congrArg List.length M8.out; unfold addT at h1; rw [List.length_map, List.length_map, ordL_len IP.out.hi] at h1; exact h1)
            have RF := Lib.hid (Y8.out.set 0 (.slice ya m8.length yc))
            have TF := Lib.hid (T8.out.box (o := 0) (u := .slice ya m8.length yc) Y8.out.ty (by decide) (T8.out.ne_ty Y8.out.ty (by decide)))
            have GF : Hid (Gr w (w8.setCell ⟨P2, 0, none⟩ (.slice ya m8.length yc))) := Lib.hid (G8.out.setc (by have := HPB.out; have := HP2.out; omega))
            obtain ⟨W3, hW3⟩ : ∃ W : World, Hid (W = w8.setCell ⟨P2, 0, none⟩ (.slice ya m8.length yc)) := ⟨_, Lib.hid rfl⟩
            rw [← hW3.out] at RF TF GF ⊢
            have e0 : W3.cell? ⟨P2, 0, none⟩ = some (.slice ya m8.length yc) := RF.out.cell 0 (by simp)
            clear hW3 z0 zf hz
            refine bodyPost_ret (v := .tuple #[.agg #[.slice ya m8.length yc], .int .i64 0]) (by simp [results, Tryz.results98, e0, go_sem]) rfl ?_
            rw [HP0.out]
            exact ⟨GF.out, .inr ⟨_, m8, rfl, by rw [HPB.out]; exact TF.out, by rw [M8.out]; exact VT_add HV.out hk l3 HM.out NO'.out DD.out IP.out, fun hx => by rw [M8.out]; exact hx.add, L8.out⟩⟩
theorem putP_at (p : Prp) : ∀ (l : List Prp) (k : Nat) (hk : k ≤ l.length) (hlow : ∀ j (hj : j < l.length), j < k → ltS (l[j]'hj).name p.name = true) (hup : ∀ h : k < l.length, ltS (l[k]'h).name p.name = false),
    (∀ h : k < l.length, (l[k]'h).name = p.name → putP l p = l.take k ++ p :: l.drop (k + 1)) ∧ ((∀ h : k < l.length, (l[k]'h).name ≠ p.name) → putP l p = l.take k ++ p :: l.drop k) := by
  intro l
  induction l with
  | nil =>
    intro k hk _ _
    have : k = 0 := by simpa using hk
    subst this
    exact ⟨fun h => absurd h (by simp), fun _ => rfl⟩
  | cons y l ih =>
    intro k hk hlow hup
    rw [putP_cons]
    cases k with
    | zero =>
      have h0 := hup (by simp)
      rw [List.getElem_cons_zero] at h0
      rw [h0, if_neg (by simp)]
      refine ⟨fun h e => ?_, fun h => ?_⟩
      · rw [List.getElem_cons_zero] at e
        rw [if_pos e]; rfl
      · have := h (by simp)
        rw [List.getElem_cons_zero] at this
        rw [if_neg this]; rfl
    | succ k =>
      have h0 := hlow 0 (by simp) (by omega)
      rw [List.getElem_cons_zero] at h0
      rw [if_pos h0]
      have hk' : k ≤ l.length := by simpa using hk
      have h1 := ih k hk' (fun j hj hjk => by
        have := hlow (j + 1) (by simpa using hj) (by omega)
        rw [List.getElem_cons_succ] at this
        exact this) (fun h => by
        have := hup (by simpa using h)
        rw [List.getElem_cons_succ] at this
        exact this)
      refine ⟨fun h e => ?_, fun h => ?_⟩
      · rw [List.getElem_cons_succ] at e
        rw [h1.1 (by simpa using h) e]; rfl
      · rw [h1.2 (fun h2 => by
          have := h (by simpa using h2)
          rw [List.getElem_cons_succ] at this
          exact this)]; rfl
theorem prps_take {w : World} {a : Option Addr} {ps : List Prp} (h : SlOf 2 RPrp w a ps) (k : Nat) (hk : k ≤ ps.length) : Gets w a k 2 ((ps.take k).flatMap encP) := by
  have h1 : SlOf 2 RPrp w a (ps.take k) := fun i hi => by
    have hi2 : i < k ∧ i < ps.length := by rw [List.length_take] at hi; omega
    obtain ⟨b, o, e, r⟩ := h i hi2.2
    exact ⟨b, o, e, by rw [List.getElem_take]; exact r⟩
  have h2 := gets_prps h1
  rw [List.length_take, Nat.min_eq_left hk] at h2
  exact h2
theorem prps_drop {w : World} {b o : Nat} {ps : List Prp} (h : SlOf 2 RPrp w (some ⟨b, o, none⟩) ps) (m pc : Nat) (hc : ps.length ≤ pc) {ra : Option Addr} (hr : ra = if pc = m then some ⟨b, o, none⟩ else some ⟨b, o + m * 2, none⟩) : Gets w ra (ps.length - m) 2 ((ps.drop m).flatMap encP) := by
  by_cases e : ps.length ≤ m
  · have : ps.length - m = 0 := by omega
    rw [this, List.drop_eq_nil_iff.2 e]
    exact ⟨rfl, fun h => absurd rfl h⟩
  · rw [if_neg (by omega)] at hr
    subst hr
    have h1 : SlOf 2 RPrp w (some ⟨b, o + m * 2, none⟩) (ps.drop m) := fun i hi => by
      have hi2 : m + i < ps.length := by rw [List.length_drop] at hi; omega
      obtain ⟨b2, o2, e, r⟩ := h (m + i) hi2
      cases e
      refine ⟨b, o + m * 2, rfl, ?_⟩
      rw [List.getElem_drop, show o + m * 2 + i * 2 = o + (m + i) * 2 by omega]
      exact r
    have h2 := gets_prps h1
    rw [List.length_drop] at h2
    exact h2
theorem rPut_ok (ps : List Prp) (p : Prp) (pa : Option Addr) (pc : Nat) (w : World) (h : SlOf 2 RPrp w pa ps) (hl : ps.length ≤ 1000) (hs : ∀ q ∈ ps, q.name.length ≤ 1000 ∧ q.val.length ≤ 1000) (hp : p.name.length ≤ 1000) (hc : ps.length ≤ pc) :
    Calls Tryz.prog 55 #[.slice pa ps.length pc, .agg #[.string (bs p.name), .string (bs p.val)]] w fun e w' => ∃ a c, e = .returned (.slice a (putP ps p).length c) ∧ w'.ownsRow w.heap.size 83 2 (.slice a (putP ps p).length c) (putP ps p).length ((putP ps p).flatMap encP) ∧ Gr w w' := by
  have H := Lib.hid h
  have HS := Lib.hid hs
  clear h hs
  obtain ⟨j0, hj, hy0, hy1, hy2⟩ := info_parts infoPrp
  obtain ⟨P0, hP0⟩ : ∃ P : Ending → World → Prop, P = fun e w' => ∃ a c, e = .returned (.slice a (putP ps p).length c) ∧ w'.ownsRow w.heap.size 83 2 (.slice a (putP ps p).length c) (putP ps p).length ((putP ps p).flatMap encP) ∧ Gr w w' := ⟨_, rfl⟩
  rw [← hP0]
  have HP0 := Lib.hid hP0
  clear hP0
  go_enter Tryz.func55, Tryz.ntmps55
  go_upto_region 1 with (fail)
  have R1 := Lib.hid (Row.new w #[.string (bs p.name), .string (bs p.val)] 83)
  obtain ⟨W, hW⟩ : ∃ W : World, Hid (W = w.alloc (.cells #[.string (bs p.name), .string (bs p.val)] 83)) := ⟨_, Lib.hid rfl⟩
  have GW : Hid (Gr w W) := Lib.hid (by rw [hW.out]; exact (Gr.refl _).alloc _)
  rw [← hW.out] at R1 ⊢
  obtain ⟨PB, hPB⟩ : ∃ N : Nat, Hid (w.heap.size = N) := ⟨_, Lib.hid rfl⟩
  have HPB := Lib.hid hPB.out
  rw [hPB.out] at R1 ⊢
  clear hW hPB
  go_wp2_with fail
  go_loopw [5] (fun i wr => ∃ k : Nat, k ≤ ps.length ∧ i = .int .i64 k ∧ (∀ j (h : j < ps.length), j < k → ltS (ps[j]'h).name p.name = true) ∧ Gr W wr) (fun i _ => ps.length - (intOf i).toNat)
  case atStart => exact ⟨0, Nat.zero_le _, rfl, fun j _ h => absurd h (by omega), Gr.refl _⟩
  case round =>
    obtain ⟨k, hk, rfl, hlo, hg⟩ := hrel
    have LO := Lib.hid hlo
    have HG := Lib.hid hg
    have S1 := Lib.hid (R1.out.gr hg)
    clear hlo hg
    have p0 : wr.cell? ⟨PB, 0, none⟩ = some (.string (bs p.name)) := S1.out.cell 0 (by simp)
    have p1 : wr.cell? ⟨PB, 1, none⟩ = some (.string (bs p.val)) := S1.out.cell 1 (by simp)
    have hpb := has_of_cell p0
    by_cases hlt : k < ps.length
    · obtain ⟨b2, o2, rfl, d0, d1, l0, l1⟩ := prps_at (H.out.gr RPrp.mono (GW.out.trans HG.out)) k hlt
      have hh2 := has_of_cell d0
      obtain ⟨q, hq⟩ : ∃ q, ps[k]'hlt = q := ⟨_, rfl⟩
      rw [hq] at d0 d1
      have kk : (k : Int) < ps.length := by omega
      have LQ : Hid (q.name.length ≤ 1000 ∧ q.val.length ≤ 1000) := Lib.hid (by rw [← hq]; exact HS.out _ (List.getElem_mem hlt))
      clear l0 l1
      by_cases hb : ltS q.name p.name = true
      · have q1 : Op.bytesLess q.name p.name = true := hb
        have LN : Hid (ltS (ps[k]'hlt).name p.name = true) := Lib.hid (by rw [hq]; exact hb)
        clear hb hq
        go_wp2_with fail
        go_quiet (fail)
        go_wp2_with fail
        go_roundw
        case rel =>
          refine ⟨k + 1, by omega, by go_num, fun j hj hjk => ?_, HG.out.drewN _⟩
          by_cases e : j = k
          · subst e; exact LN.out
          · exact LO.out j hj (by omega)
        case measure => simp [intOf]; omega
      · rw [Bool.not_eq_true] at hb
        have q1 : Op.bytesLess q.name p.name = false := hb
        go_wp2_with fail
        go_quiet (fail)
        go_wp2_with fail
        obtain ⟨w2, hw2⟩ : ∃ W : World, Hid (wr.drewN nq = W) := ⟨_, Lib.hid rfl⟩
        have GQ : Hid (Gr wr w2) := Lib.hid (by rw [← hw2.out]; exact (Gr.refl _).drewN _)
        rw [hw2.out]
        have S2 := Lib.hid (S1.out.gr GQ.out)
        have p0' : w2.cell? ⟨PB, 0, none⟩ = some (.string (bs p.name)) := S2.out.cell 0 (by simp)
        have p1' : w2.cell? ⟨PB, 1, none⟩ = some (.string (bs p.val)) := S2.out.cell 1 (by simp)
        have hpb' := has_of_cell p0'
        have HG2 := Lib.hid (GW.out.trans (HG.out.trans GQ.out))
        obtain ⟨b3, o3, h3, d0', d1', l0', l1'⟩ := prps_at (H.out.gr RPrp.mono HG2.out) k hlt
        cases h3
        rw [hq] at d0' d1'
        have hh3 := has_of_cell d0'
        clear hw2 l0' l1' d0 d1 hh2 p0 p1 hpb
        by_cases he : q.name = p.name
        · have q2 : (q.name == p.name) = true := by rw [he]; exact beq_self_eq_true _
          go_wp2_with fail
          go_quiet (fail)
          go_upto_region 7 with (fail)
          obtain ⟨w3, hw3⟩ : ∃ W : World, Hid (w2.drewN nq = W) := ⟨_, Lib.hid rfl⟩
          have PE : Hid (putP ps p = ps.take k ++ p :: ps.drop (k + 1)) := Lib.hid ((putP_at p ps k hk LO.out (fun h => by rw [hq]; exact hb)).1 hlt (by rw [hq]; exact he))
          obtain ⟨ra, hra⟩ : ∃ ra : Option Addr, ra = if pc = k + 1 then some ⟨b2, o2, none⟩ else some ⟨b2, o2 + (k + 1) * 2, none⟩ := ⟨_, rfl⟩
          rw [← hra]
          have G3 : Hid (Gr w w3) := Lib.hid (by rw [← hw3.out]; exact HG2.out.drewN _)
          have S3 : Hid (Row w3 PB 83 [.string (bs p.name), .string (bs p.val)]) := Lib.hid (S2.out.gr (by rw [← hw3.out]; exact (Gr.refl _).drewN _))
          rw [hw3.out]
          have GP : Hid (∀ W, Gr w3 W → Gets W (some ⟨b2, o2, none⟩) k 2 ((ps.take k).flatMap encP)) := Lib.hid (fun W hg => prps_take (H.out.gr RPrp.mono (G3.out.trans hg)) k hk)
          have GR : Hid (∀ W, Gr w3 W → Gets W ra (ps.length - (k + 1)) 2 ((ps.drop (k + 1)).flatMap encP)) := Lib.hid (fun W hg => prps_drop (H.out.gr RPrp.mono (G3.out.trans hg)) (k + 1) pc hc hra)
          have bh : PB < w3.heap.size := S3.out.has
          clear hra hw3 S1 S2 HG HG2 LO p0' p1' hpb' d0' d1' hh3
          have z0 := (S3.out.alloc (.cells #[] 83)).cell 0 (by simp)
          go_upto_region 8 with (at_builtin; refine wpList_append_gets _ rfl _ _ 84 rfl w3.heap.size 83 j0 (.agg #[.string (bs []), .string (bs [])]) 2 32 Tryz.underlying84 hj hy0 hy1 hy2 rfl (by decide) (.slice (some ⟨w3.heap.size, 0, none⟩) 0 0) 0 [] rfl (World.ownsRow_made w3 #[] 0 (by omega) (by simp) rfl) (some ⟨b2, o2, none⟩) (k) (pc) ((ps.take (k)).flatMap encP) rfl (GP.out _ ((Gr.refl w3).alloc _)) (flatP_one _) (by unfold maxLen; omega) (by omega) (by simp) ?_; intro v5 w5 hown hgrow hloc; obtain ⟨x5, z5, rfl⟩ := owns_slice hown; have O5 := Lib.hid hown; have G5 : Hid (Gr w3 w5) := Lib.hid (((Gr.refl w3).alloc _).grown hgrow (fun k e => by cases e; exact Nat.le_refl _)); clear hown hgrow hloc)
          rw [Nat.zero_add] at O5
          (try rw [Nat.zero_add])
          rw [List.nil_append] at O5
          clear z0
          have S5 := Lib.hid (S3.out.gr G5.out)
          have p0 : w5.cell? ⟨PB, 0, none⟩ = some (.string (bs p.name)) := S5.out.cell 0 (by simp)
          have p1 : w5.cell? ⟨PB, 1, none⟩ = some (.string (bs p.val)) := S5.out.cell 1 (by simp)
          have hpb := has_of_cell p0
          have O6 := Lib.hid (O5.out.alloc (.cells #[.string (bs p.name), .string (bs p.val)] 83))
          have NR := Lib.hid (row_cells (Row.new w5 #[.string (bs p.name), .string (bs p.val)] 83))
          have h5 := G5.out.size
          go_wp2_with (first | (at_builtin; refine wpList_append_own _ rfl _ _ 84 rfl w3.heap.size 83 j0 (.agg #[.string (bs []), .string (bs [])]) 2 32 Tryz.underlying84 hj hy0 hy1 hy2 rfl (by decide) _ (k) ((ps.take (k)).flatMap encP) rfl O6.out ⟨w5.heap.size, 0, none⟩ 1 1 [.string (bs p.name), .string (bs p.val)] rfl rfl NR.out (by intro u hu; simp only [List.mem_cons, List.not_mem_nil, or_false] at hu; rcases hu with q | q <;> subst q <;> rfl) (by unfold maxLen; omega) (by omega) (by simp; omega) ?_; intro v6 w6 hown hgrow hloc; obtain ⟨x6, z6, rfl⟩ := owns_slice hown; have O7 := Lib.hid hown; have G6 : Hid (Gr w3 w6) := Lib.hid ((G5.out.alloc _).grown hgrow (fun k e => (owns_block O5.out k e).1)); have h6 := G6.out.size; clear hown hgrow hloc) | (at_builtin; refine wpList_append_gets _ rfl _ _ 84 rfl w3.heap.size 83 j0 (.agg #[.string (bs []), .string (bs [])]) 2 32 Tryz.underlying84 hj hy0 hy1 hy2 rfl (by decide) _ (k + 1) ((ps.take (k)).flatMap encP ++ encP p) rfl O7.out ra (ps.length - (k + 1)) (pc - (k + 1)) ((ps.drop (k + 1)).flatMap encP) rfl (GR.out _ G6.out) (flatP_one _) (by unfold maxLen; omega) (by omega) (by omega) ?_; intro v7 w7 hown hgrow hloc; obtain ⟨x7, z7, rfl⟩ := owns_slice hown; have O8 := Lib.hid hown; have G7 : Hid (Gr w3 w7) := Lib.hid (G6.out.grown hgrow (fun k e => (owns_block O7.out k e).1)); clear hown hgrow hloc))
          rw [HP0.out]
          have EL : (putP ps p).length = k + 1 + (ps.length - (k + 1)) := by rw [PE.out, List.length_append, List.length_cons, List.length_take, List.length_drop]; omega
          have EF : (putP ps p).flatMap encP = ((ps.take (k)).flatMap encP ++ encP p) ++ (ps.drop (k + 1)).flatMap encP := by rw [PE.out, List.flatMap_append, List.flatMap_cons, List.append_assoc]
          refine ⟨x7, z7, by rw [EL], ?_, G3.out.trans G7.out⟩
          rw [EL, EF, HPB.out]
          exact owns_low O8.out (by omega)
        · have q2 : (q.name == p.name) = false := by rw [beq_eq_false_iff_ne]; exact he
          go_wp2_with fail
          go_quiet (fail)
          go_upto_region 7 with (fail)
          obtain ⟨w3, hw3⟩ : ∃ W : World, Hid (w2.drewN nq = W) := ⟨_, Lib.hid rfl⟩
          have PE : Hid (putP ps p = ps.take k ++ p :: ps.drop k) := Lib.hid ((putP_at p ps k hk LO.out (fun h => by rw [hq]; exact hb)).2 (fun h => by rw [hq]; exact he))
          obtain ⟨ra, hra⟩ : ∃ ra : Option Addr, ra = some ⟨b2, o2 + k * 2, none⟩ := ⟨_, rfl⟩
          rw [← hra]
          have G3 : Hid (Gr w w3) := Lib.hid (by rw [← hw3.out]; exact HG2.out.drewN _)
          have S3 : Hid (Row w3 PB 83 [.string (bs p.name), .string (bs p.val)]) := Lib.hid (S2.out.gr (by rw [← hw3.out]; exact (Gr.refl _).drewN _))
          rw [hw3.out]
          have GP : Hid (∀ W, Gr w3 W → Gets W (some ⟨b2, o2, none⟩) k 2 ((ps.take k).flatMap encP)) := Lib.hid (fun W hg => prps_take (H.out.gr RPrp.mono (G3.out.trans hg)) k hk)
          have GR : Hid (∀ W, Gr w3 W → Gets W ra (ps.length - k) 2 ((ps.drop k).flatMap encP)) := Lib.hid (fun W hg => prps_drop (H.out.gr RPrp.mono (G3.out.trans hg)) k pc hc (by rw [hra, if_neg (by omega)]))
          have bh : PB < w3.heap.size := S3.out.has
          clear hra hw3 S1 S2 HG HG2 LO p0' p1' hpb' d0' d1' hh3
          have z0 := (S3.out.alloc (.cells #[] 83)).cell 0 (by simp)
          go_upto_region 8 with (at_builtin; refine wpList_append_gets _ rfl _ _ 84 rfl w3.heap.size 83 j0 (.agg #[.string (bs []), .string (bs [])]) 2 32 Tryz.underlying84 hj hy0 hy1 hy2 rfl (by decide) (.slice (some ⟨w3.heap.size, 0, none⟩) 0 0) 0 [] rfl (World.ownsRow_made w3 #[] 0 (by omega) (by simp) rfl) (some ⟨b2, o2, none⟩) (k) (pc) ((ps.take (k)).flatMap encP) rfl (GP.out _ ((Gr.refl w3).alloc _)) (flatP_one _) (by unfold maxLen; omega) (by omega) (by simp) ?_; intro v5 w5 hown hgrow hloc; obtain ⟨x5, z5, rfl⟩ := owns_slice hown; have O5 := Lib.hid hown; have G5 : Hid (Gr w3 w5) := Lib.hid (((Gr.refl w3).alloc _).grown hgrow (fun k e => by cases e; exact Nat.le_refl _)); clear hown hgrow hloc)
          rw [Nat.zero_add] at O5
          (try rw [Nat.zero_add])
          rw [List.nil_append] at O5
          clear z0
          have S5 := Lib.hid (S3.out.gr G5.out)
          have p0 : w5.cell? ⟨PB, 0, none⟩ = some (.string (bs p.name)) := S5.out.cell 0 (by simp)
          have p1 : w5.cell? ⟨PB, 1, none⟩ = some (.string (bs p.val)) := S5.out.cell 1 (by simp)
          have hpb := has_of_cell p0
          have O6 := Lib.hid (O5.out.alloc (.cells #[.string (bs p.name), .string (bs p.val)] 83))
          have NR := Lib.hid (row_cells (Row.new w5 #[.string (bs p.name), .string (bs p.val)] 83))
          have h5 := G5.out.size
          go_wp2_with (first | (at_builtin; refine wpList_append_own _ rfl _ _ 84 rfl w3.heap.size 83 j0 (.agg #[.string (bs []), .string (bs [])]) 2 32 Tryz.underlying84 hj hy0 hy1 hy2 rfl (by decide) _ (k) ((ps.take (k)).flatMap encP) rfl O6.out ⟨w5.heap.size, 0, none⟩ 1 1 [.string (bs p.name), .string (bs p.val)] rfl rfl NR.out (by intro u hu; simp only [List.mem_cons, List.not_mem_nil, or_false] at hu; rcases hu with q | q <;> subst q <;> rfl) (by unfold maxLen; omega) (by omega) (by simp; omega) ?_; intro v6 w6 hown hgrow hloc; obtain ⟨x6, z6, rfl⟩ := owns_slice hown; have O7 := Lib.hid hown; have G6 : Hid (Gr w3 w6) := Lib.hid ((G5.out.alloc _).grown hgrow (fun k e => (owns_block O5.out k e).1)); have h6 := G6.out.size; clear hown hgrow hloc) | (at_builtin; refine wpList_append_gets _ rfl _ _ 84 rfl w3.heap.size 83 j0 (.agg #[.string (bs []), .string (bs [])]) 2 32 Tryz.underlying84 hj hy0 hy1 hy2 rfl (by decide) _ (k + 1) ((ps.take (k)).flatMap encP ++ encP p) rfl O7.out ra (ps.length - k) (pc - k) ((ps.drop (k)).flatMap encP) rfl (GR.out _ G6.out) (flatP_one _) (by unfold maxLen; omega) (by omega) (by omega) ?_; intro v7 w7 hown hgrow hloc; obtain ⟨x7, z7, rfl⟩ := owns_slice hown; have O8 := Lib.hid hown; have G7 : Hid (Gr w3 w7) := Lib.hid (G6.out.grown hgrow (fun k e => (owns_block O7.out k e).1)); clear hown hgrow hloc))
          rw [HP0.out]
          have EL : (putP ps p).length = k + 1 + (ps.length - k) := by rw [PE.out, List.length_append, List.length_cons, List.length_take, List.length_drop]; omega
          have EF : (putP ps p).flatMap encP = ((ps.take (k)).flatMap encP ++ encP p) ++ (ps.drop (k)).flatMap encP := by rw [PE.out, List.flatMap_append, List.flatMap_cons, List.append_assoc]
          refine ⟨x7, z7, by rw [EL], ?_, G3.out.trans G7.out⟩
          rw [EL, EF, HPB.out]
          exact owns_low O8.out (by omega)
    · obtain rfl : k = ps.length := by omega
      by_cases kc : pc = ps.length
      · subst kc
        go_wp2_with fail
        go_quiet (fail)
        go_wp2_with fail
        obtain ⟨w2, hw2⟩ : ∃ W : World, Hid (wr.drewN nq = W) := ⟨_, Lib.hid rfl⟩
        have GQ : Hid (Gr wr w2) := Lib.hid (by rw [← hw2.out]; exact (Gr.refl _).drewN _)
        rw [hw2.out]
        go_quiet (fail)
        go_upto_region 7 with (fail)
        obtain ⟨w3, hw3⟩ : ∃ W : World, Hid (w2.drewN nq = W) := ⟨_, Lib.hid rfl⟩
        have PE : Hid (putP ps p = ps.take ps.length ++ p :: ps.drop ps.length) := Lib.hid ((putP_at p ps ps.length hk LO.out (fun h => absurd h (by omega))).2 (fun h => absurd h (by omega)))
        have hra := trivial
        have G3 : Hid (Gr w w3) := Lib.hid (by rw [← hw3.out]; exact (GW.out.trans (HG.out.trans GQ.out)).drewN _)
        have S3 : Hid (Row w3 PB 83 [.string (bs p.name), .string (bs p.val)]) := Lib.hid (S1.out.gr (by rw [← hw3.out]; exact GQ.out.drewN _))
        rw [hw3.out]
        have GP : Hid (∀ W, Gr w3 W → Gets W pa ps.length 2 ((ps.take ps.length).flatMap encP)) := Lib.hid (fun W hg => prps_take (H.out.gr RPrp.mono (G3.out.trans hg)) ps.length hk)
        have GR : Hid (∀ W, Gr w3 W → Gets W pa 0 2 ((ps.drop ps.length).flatMap encP)) := Lib.hid (fun W hg => by rw [List.drop_length]; exact ⟨rfl, fun h => absurd rfl h⟩)
        have bh : PB < w3.heap.size := S3.out.has
        clear hra hw3 S1 HG LO p0 p1 hpb
        have z0 := (S3.out.alloc (.cells #[] 83)).cell 0 (by simp)
        go_upto_region 8 with (at_builtin; refine wpList_append_gets _ rfl _ _ 84 rfl w3.heap.size 83 j0 (.agg #[.string (bs []), .string (bs [])]) 2 32 Tryz.underlying84 hj hy0 hy1 hy2 rfl (by decide) (.slice (some ⟨w3.heap.size, 0, none⟩) 0 0) 0 [] rfl (World.ownsRow_made w3 #[] 0 (by omega) (by simp) rfl) pa (ps.length) (ps.length) ((ps.take (ps.length)).flatMap encP) rfl (GP.out _ ((Gr.refl w3).alloc _)) (flatP_one _) (by unfold maxLen; omega) (by omega) (by simp) ?_; intro v5 w5 hown hgrow hloc; obtain ⟨x5, z5, rfl⟩ := owns_slice hown; have O5 := Lib.hid hown; have G5 : Hid (Gr w3 w5) := Lib.hid (((Gr.refl w3).alloc _).grown hgrow (fun k e => by cases e; exact Nat.le_refl _)); clear hown hgrow hloc)
        rw [Nat.zero_add] at O5
        (try rw [Nat.zero_add])
        rw [List.nil_append] at O5
        clear z0
        have S5 := Lib.hid (S3.out.gr G5.out)
        have p0 : w5.cell? ⟨PB, 0, none⟩ = some (.string (bs p.name)) := S5.out.cell 0 (by simp)
        have p1 : w5.cell? ⟨PB, 1, none⟩ = some (.string (bs p.val)) := S5.out.cell 1 (by simp)
        have hpb := has_of_cell p0
        have O6 := Lib.hid (O5.out.alloc (.cells #[.string (bs p.name), .string (bs p.val)] 83))
        have NR := Lib.hid (row_cells (Row.new w5 #[.string (bs p.name), .string (bs p.val)] 83))
        have h5 := G5.out.size
        go_wp2_with (first | (at_builtin; refine wpList_append_own _ rfl _ _ 84 rfl w3.heap.size 83 j0 (.agg #[.string (bs []), .string (bs [])]) 2 32 Tryz.underlying84 hj hy0 hy1 hy2 rfl (by decide) _ (ps.length) ((ps.take (ps.length)).flatMap encP) rfl O6.out ⟨w5.heap.size, 0, none⟩ 1 1 [.string (bs p.name), .string (bs p.val)] rfl rfl NR.out (by intro u hu; simp only [List.mem_cons, List.not_mem_nil, or_false] at hu; rcases hu with q | q <;> subst q <;> rfl) (by unfold maxLen; omega) (by omega) (by simp; omega) ?_; intro v6 w6 hown hgrow hloc; obtain ⟨x6, z6, rfl⟩ := owns_slice hown; have O7 := Lib.hid hown; have G6 : Hid (Gr w3 w6) := Lib.hid ((G5.out.alloc _).grown hgrow (fun k e => (owns_block O5.out k e).1)); have h6 := G6.out.size; clear hown hgrow hloc) | (at_builtin; refine wpList_append_gets _ rfl _ _ 84 rfl w3.heap.size 83 j0 (.agg #[.string (bs []), .string (bs [])]) 2 32 Tryz.underlying84 hj hy0 hy1 hy2 rfl (by decide) _ (ps.length + 1) ((ps.take (ps.length)).flatMap encP ++ encP p) rfl O7.out pa (0) (0) ((ps.drop (ps.length)).flatMap encP) rfl (GR.out _ G6.out) (flatP_one _) (by unfold maxLen; omega) (by omega) (by omega) ?_; intro v7 w7 hown hgrow hloc; obtain ⟨x7, z7, rfl⟩ := owns_slice hown; have O8 := Lib.hid hown; have G7 : Hid (Gr w3 w7) := Lib.hid (G6.out.grown hgrow (fun k e => (owns_block O7.out k e).1)); clear hown hgrow hloc))
        rw [HP0.out]
        have EL : (putP ps p).length = ps.length + 1 + (0) := by rw [PE.out, List.length_append, List.length_cons, List.length_take, List.length_drop]; omega
        have EF : (putP ps p).flatMap encP = ((ps.take (ps.length)).flatMap encP ++ encP p) ++ (ps.drop (ps.length)).flatMap encP := by rw [PE.out, List.flatMap_append, List.flatMap_cons, List.append_assoc]
        refine ⟨x7, z7, by rw [EL], ?_, G3.out.trans G7.out⟩
        rw [EL, EF, HPB.out]
        exact owns_low O8.out (by omega)
      · have kc2 : ps.length < pc := by omega
        go_wp2_with fail
        go_quiet (fail)
        go_wp2_with fail
        obtain ⟨w2, hw2⟩ : ∃ W : World, Hid (wr.drewN nq = W) := ⟨_, Lib.hid rfl⟩
        have GQ : Hid (Gr wr w2) := Lib.hid (by rw [← hw2.out]; exact (Gr.refl _).drewN _)
        rw [hw2.out]
        go_quiet (fail)
        go_upto_region 7 with (fail)
        obtain ⟨w3, hw3⟩ : ∃ W : World, Hid (w2.drewN nq = W) := ⟨_, Lib.hid rfl⟩
        have PE : Hid (putP ps p = ps.take ps.length ++ p :: ps.drop ps.length) := Lib.hid ((putP_at p ps ps.length hk LO.out (fun h => absurd h (by omega))).2 (fun h => absurd h (by omega)))
        obtain ⟨ra, hra⟩ : ∃ ra : Option Addr, ra = pa.map (fun x => x.add (ps.length * 2)) := ⟨_, rfl⟩
        (try rw [← hra])
        have G3 : Hid (Gr w w3) := Lib.hid (by rw [← hw3.out]; exact (GW.out.trans (HG.out.trans GQ.out)).drewN _)
        have S3 : Hid (Row w3 PB 83 [.string (bs p.name), .string (bs p.val)]) := Lib.hid (S1.out.gr (by rw [← hw3.out]; exact GQ.out.drewN _))
        rw [hw3.out]
        have GP : Hid (∀ W, Gr w3 W → Gets W pa ps.length 2 ((ps.take ps.length).flatMap encP)) := Lib.hid (fun W hg => prps_take (H.out.gr RPrp.mono (G3.out.trans hg)) ps.length hk)
        have GR : Hid (∀ W, Gr w3 W → Gets W ra 0 2 ((ps.drop ps.length).flatMap encP)) := Lib.hid (fun W hg => by rw [List.drop_length]; exact ⟨rfl, fun h => absurd rfl h⟩)
        have bh : PB < w3.heap.size := S3.out.has
        clear hra hw3 S1 HG LO p0 p1 hpb
        have z0 := (S3.out.alloc (.cells #[] 83)).cell 0 (by simp)
        go_upto_region 8 with (at_builtin; refine wpList_append_gets _ rfl _ _ 84 rfl w3.heap.size 83 j0 (.agg #[.string (bs []), .string (bs [])]) 2 32 Tryz.underlying84 hj hy0 hy1 hy2 rfl (by decide) (.slice (some ⟨w3.heap.size, 0, none⟩) 0 0) 0 [] rfl (World.ownsRow_made w3 #[] 0 (by omega) (by simp) rfl) pa (ps.length) (pc) ((ps.take (ps.length)).flatMap encP) rfl (GP.out _ ((Gr.refl w3).alloc _)) (flatP_one _) (by unfold maxLen; omega) (by omega) (by simp) ?_; intro v5 w5 hown hgrow hloc; obtain ⟨x5, z5, rfl⟩ := owns_slice hown; have O5 := Lib.hid hown; have G5 : Hid (Gr w3 w5) := Lib.hid (((Gr.refl w3).alloc _).grown hgrow (fun k e => by cases e; exact Nat.le_refl _)); clear hown hgrow hloc)
        rw [Nat.zero_add] at O5
        (try rw [Nat.zero_add])
        rw [List.nil_append] at O5
        clear z0
        have S5 := Lib.hid (S3.out.gr G5.out)
        have p0 : w5.cell? ⟨PB, 0, none⟩ = some (.string (bs p.name)) := S5.out.cell 0 (by simp)
        have p1 : w5.cell? ⟨PB, 1, none⟩ = some (.string (bs p.val)) := S5.out.cell 1 (by simp)
        have hpb := has_of_cell p0
        have O6 := Lib.hid (O5.out.alloc (.cells #[.string (bs p.name), .string (bs p.val)] 83))
        have NR := Lib.hid (row_cells (Row.new w5 #[.string (bs p.name), .string (bs p.val)] 83))
        have h5 := G5.out.size
        go_wp2_with (first | (at_builtin; refine wpList_append_own _ rfl _ _ 84 rfl w3.heap.size 83 j0 (.agg #[.string (bs []), .string (bs [])]) 2 32 Tryz.underlying84 hj hy0 hy1 hy2 rfl (by decide) _ (ps.length) ((ps.take (ps.length)).flatMap encP) rfl O6.out ⟨w5.heap.size, 0, none⟩ 1 1 [.string (bs p.name), .string (bs p.val)] rfl rfl NR.out (by intro u hu; simp only [List.mem_cons, List.not_mem_nil, or_false] at hu; rcases hu with q | q <;> subst q <;> rfl) (by unfold maxLen; omega) (by omega) (by simp; omega) ?_; intro v6 w6 hown hgrow hloc; obtain ⟨x6, z6, rfl⟩ := owns_slice hown; have O7 := Lib.hid hown; have G6 : Hid (Gr w3 w6) := Lib.hid ((G5.out.alloc _).grown hgrow (fun k e => (owns_block O5.out k e).1)); have h6 := G6.out.size; clear hown hgrow hloc) | (at_builtin; refine wpList_append_gets _ rfl _ _ 84 rfl w3.heap.size 83 j0 (.agg #[.string (bs []), .string (bs [])]) 2 32 Tryz.underlying84 hj hy0 hy1 hy2 rfl (by decide) _ (ps.length + 1) ((ps.take (ps.length)).flatMap encP ++ encP p) rfl O7.out ra (0) (pc - ps.length) ((ps.drop (ps.length)).flatMap encP) rfl (GR.out _ G6.out) (flatP_one _) (by unfold maxLen; omega) (by omega) (by omega) ?_; intro v7 w7 hown hgrow hloc; obtain ⟨x7, z7, rfl⟩ := owns_slice hown; have O8 := Lib.hid hown; have G7 : Hid (Gr w3 w7) := Lib.hid (G6.out.grown hgrow (fun k e => (owns_block O7.out k e).1)); clear hown hgrow hloc))
        rw [HP0.out]
        have EL : (putP ps p).length = ps.length + 1 + (0) := by rw [PE.out, List.length_append, List.length_cons, List.length_take, List.length_drop]; omega
        have EF : (putP ps p).flatMap encP = ((ps.take (ps.length)).flatMap encP ++ encP p) ++ (ps.drop (ps.length)).flatMap encP := by rw [PE.out, List.flatMap_append, List.flatMap_cons, List.append_assoc]
        refine ⟨x7, z7, by rw [EL], ?_, G3.out.trans G7.out⟩
        rw [EL, EF, HPB.out]
        exact owns_low O8.out (by omega)
end Go.Proofs.YtbpkndiecomggaaGreatDoor

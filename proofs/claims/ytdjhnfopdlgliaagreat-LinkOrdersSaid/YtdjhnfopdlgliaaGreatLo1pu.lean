/- Lemmas and contracts for the proof of LinkOrders (several texts in one, printed by wip/tools/pack.py): LrA. -/
import Derived.Test.YtdjhnfopdlgliaaGreatLo1pt
import Derived.WalkMore
set_option maxRecDepth 100000
set_option maxHeartbeats 16000000
set_option linter.unusedVariables false
set_option linter.unusedSimpArgs false
namespace Go.Proofs.YtdjhnfopdlgliaaGreat
open Go.RowKit
open Classical
theorem any_snoc (p : Lnk → Bool) (l : List Lnk) (m : Nat) (h : m < l.length) : (l.take (m + 1)).any p = ((l.take m).any p || p l[m]) := by
  rw [List.take_succ_eq_append_getElem h, List.any_append]
  simp
def PlI (o : List Int) (k n : Nat) (zs : List Int) : Prop := (∀ j (hj : j < o.length), j < k → zs[(o[j]'hj).toNat]? = some (j : Int)) ∧ (∀ x : Nat, x < n → (∀ j (hj : j < o.length), j < k → o[j]'hj ≠ (x : Int)) → zs[x]? = some (-1))
theorem PlI.next {o : List Int} {k n : Nat} {zs : List Int} (h : PlI o k n zs) (hk : k < o.length) {x : Nat} (ex : o[k] = (x : Int)) (hx : x < zs.length) (hxn : x < n) (hnd : o.Nodup) : PlI o (k + 1) n (zs.set x (k : Int)) := by
  refine ⟨fun j hj hjk => ?_, fun y hy hne => ?_⟩
  · by_cases e : j = k
    · subst e
      rw [ex, Int.toNat_natCast, List.getElem?_set_self hx]
    · have hlt : j < k := by omega
      have hne : o[j] ≠ o[k] := (List.pairwise_iff_getElem.1 hnd) j k hj hk hlt
      have q := h.1 j hj hlt
      by_cases e2 : (o[j]).toNat = x
      · rw [e2] at q
        have q2 := h.2 x hxn (fun i hi hik e3 => (List.pairwise_iff_getElem.1 hnd) i k hi hk hik (by rw [e3, ex]))
        rw [q2] at q
        have := Option.some.inj q
        omega
      · rw [List.getElem?_set_ne (fun e3 => e2 e3.symm)]
        exact q
  · have h1 : x ≠ y := fun e => hne k hk (by omega) (by rw [ex, e])
    rw [List.getElem?_set_ne h1]
    exact h.2 y hy (fun j hj hjk => hne j hj (by omega))
theorem lks_get {lts : List LT} {m : Nat} (h : m < lts.length) : (lks lts)[m]'(by unfold lks; rw [List.length_map]; exact h) = lts[m].l := by
  unfold lks
  rw [List.getElem_map]
theorem allT_len2 {ts : Tr} (hg : GoodT ts) {pn cn : St} : ∀ (K : Nat) (ls : List Lnk), K ≤ ts.length → allT ts pn cn K = .ok ls → ls.length ≤ K * 64
  | 0, ls, _, h => by rw [allT] at h; injection h with h; subst h; simp
  | K + 1, ls, hK, h => by
    rw [allT] at h
    cases ha : allT ts pn cn K with
    | error e => rw [ha] at h; cases h
    | ok out =>
      rw [ha] at h
      dsimp only at h
      cases ho : ofT ts K pn cn with
      | error e => rw [ho] at h; cases h
      | ok l2 =>
        rw [ho] at h
        injection h with h
        subst h
        have h1 := allT_len2 hg K out (by omega) ha
        have h2 := ofT_len hg (by omega) ho
        rw [List.length_append]
        omega
theorem orders_any (a : Option Addr) (len cap : Nat) (zs : List Int) (w : World) (h : RowIn w a len cap zs) :
    Calls Tryz.prog 5 #[.slice a len cap] w (Grows w (.bool true)) := by
  have H := Lib.hid h
  clear h
  obtain ⟨P0, hP0⟩ : ∃ P : Ending → World → Prop, P = Grows w (.bool true) := ⟨_, rfl⟩
  rw [← hP0]
  have HP0 := Lib.hid hP0
  clear hP0
  go_enter Tryz.func5, Tryz.ntmps5
  go_wp2_with fail
  refine (newTape_any w a len cap zs H.out).mono ?_
  rintro e w1 ⟨b, n0, rfl, ht, hg, hb, _⟩
  have TP := Lib.hid (show Tp w1 b n0 from ⟨0, ht⟩)
  have G1 := Lib.hid hg
  have BW := Lib.hid hb
  clear ht hg hb
  go_wp2_with fail
  refine (links_any b n0 w1 TP.out).mono ?_
  rintro e w2 ⟨v, ms, rfl, htr, hvl, hml, hmv⟩
  obtain ⟨va, vc, rfl⟩ := owns_slice htr.own
  have G2 : Hid (Gr w w2) := Lib.hid (hmv.out G1.out BW.out)
  obtain ⟨n, hn⟩ : ∃ N : Nat, Hid (ms.length = N) := ⟨_, Lib.hid rfl⟩
  obtain ⟨ts, hts⟩ : ∃ ts, ms.map NM.n = ts := ⟨_, rfl⟩
  have TL : Hid (ts.length = n) := Lib.hid (by rw [← hts, List.length_map]; exact hn.out)
  have SL2 : Hid (SlOf 3 RNod w2 va ts) := Lib.hid (by rw [← hts]; exact htr.sl.2)
  rw [hts] at hvl
  have VLL := Lib.hid hvl
  have N9 : Hid (n ≤ 9 ∧ 0 < n) := Lib.hid ⟨by rw [← hn.out]; exact hml, by rw [← TL.out]; exact hvl.pos⟩
  rw [hn.out]
  clear hts htr hvl hml hmv
  go_upto_region 3 with (fail)
  have RX3 := Lib.hid (Row.new w2 #[.slice va n vc] 31)
  obtain ⟨w3, hw3⟩ : ∃ W : World, Hid (W = w2.alloc (.cells #[.slice va n vc] 31)) := ⟨_, Lib.hid rfl⟩
  have g3 : Gr w2 w3 := by rw [hw3.out]; exact (Gr.refl _).alloc _
  rw [← hw3.out] at RX3 ⊢
  obtain ⟨PB, hPB⟩ : ∃ N : Nat, Hid (w2.heap.size = N) := ⟨_, Lib.hid rfl⟩
  rw [hPB.out] at RX3 ⊢
  have G3 := Lib.hid (G2.out.trans g3)
  have SL3 : Hid (SlOf 3 RNod w3 va ts) := Lib.hid (SL2.out.gr RNod.mono g3)
  clear hw3 hPB g3 SL2
  rcases VLL.out.cases with hvt | ⟨hbig, _⟩
  · have HV := Lib.hid hvt
    have HC := Lib.hid (chk_V hvt)
    clear hvt
    have C4 := rAll_ok ts va vc [99, 108, 111, 99, 107, 115] [35, 99, 101, 108, 108, 115] w3 SL3.out HV.out
    have C5 := fun W (hg : Gr w3 W) => circleT_any ts va vc [99, 108, 111, 99, 107, 115] [35, 99, 101, 108, 108, 115] W (SL3.out.gr RNod.mono hg) HC.out
    have C6 := fun W (hg : Gr w3 W) => order_any ts va vc [99, 108, 111, 99, 107, 115] [35, 99, 101, 108, 108, 115] W (SL3.out.gr RNod.mono hg) HC.out
    rw [TL.out] at C4 C5 C6
    have C5 := Lib.hid C5
    have C6 := Lib.hid C6
    have x0 := RX3.out.cell 0 (by simp)
    simp only [List.getElem_cons_zero] at x0
    have hx := has_of_cell x0
    go_wp2_with fail
    refine C4.mono ?_
    intro e w4 hgv
    clear C4 x0 hx
    cases hz : allT ts [99, 108, 111, 99, 107, 115] [35, 99, 101, 108, 108, 115] ts.length with
    | error er =>
      rw [TL.out] at hz
      rw [hz] at hgv
      rw [← TL.out] at hz
      have gz : graphT ts [99, 108, 111, 99, 107, 115] [35, 99, 101, 108, 108, 115] = .error er := by unfold graphT; rw [hz]
      have E25 := graphT_err gz
      have CE : Hid (circleT ts [99, 108, 111, 99, 107, 115] [35, 99, 101, 108, 108, 115] = .error er) := Lib.hid (by unfold circleT; rw [gz])
      have OE : Hid (orderT ts [99, 108, 111, 99, 107, 115] [35, 99, 101, 108, 108, 115] = .error er) := Lib.hid (by unfold orderT; rw [gz])
      obtain ⟨rfl, hg4⟩ := hgv
      have GG4 := Lib.hid hg4
      have G4 := Lib.hid (G3.out.trans hg4)
      have RX4 := Lib.hid (RX3.out.gr hg4)
      clear hg4 gz hz
      have x0 := RX4.out.cell 0 (by simp)
      simp only [List.getElem_cons_zero] at x0
      have hx := has_of_cell x0
      go_wp2_with fail
      refine (C5.out w4 GG4.out).mono ?_
      intro e w5 hgv
      rw [CE.out] at hgv
      obtain ⟨rfl, hg5⟩ := hgv
      have GG5 := Lib.hid (GG4.out.trans hg5)
      have G5 := Lib.hid (G4.out.trans hg5)
      have RX5 := Lib.hid (RX4.out.gr hg5)
      clear hg5 x0 hx
      have x0 := RX5.out.cell 0 (by simp)
      simp only [List.getElem_cons_zero] at x0
      have hx := has_of_cell x0
      go_wp2_with fail
      refine (C6.out w5 GG5.out).mono ?_
      intro e w6 hgv
      rw [OE.out] at hgv
      obtain ⟨rfl, hg6⟩ := hgv
      have G6 := Lib.hid (G5.out.trans hg6)
      have RX6 := Lib.hid (RX5.out.gr hg6)
      clear hg6 x0 hx
      clear CE OE
      rcases E25 with rfl | rfl
      · go_wp2_with fail
        refine (awake12_any w6).mono ?_
        rintro e w9 ⟨rfl, hg9⟩
        go_wp2_with fail
        rw [HP0.out]
        exact ⟨rfl, G6.out.trans hg9⟩
      · go_wp2_with fail
        refine (awake12_any w6).mono ?_
        rintro e w9 ⟨rfl, hg9⟩
        go_wp2_with fail
        rw [HP0.out]
        exact ⟨rfl, G6.out.trans hg9⟩
    | ok ls =>
      have WAYS := order_ways hz
      rw [TL.out] at hz
      rw [hz] at hgv
      rw [← TL.out] at hz
      obtain ⟨lv, lts, rfl, hlk, how, hlr, hg4⟩ := hgv
      obtain ⟨la, lc, rfl⟩ := owns_slice how
      have HZ := Lib.hid hz
      have GG4 := Lib.hid hg4
      have G4 := Lib.hid (G3.out.trans hg4)
      have RX4 := Lib.hid (RX3.out.gr hg4)
      have OW4 := Lib.hid how
      obtain ⟨nl, hnl⟩ : ∃ N : Nat, Hid (lts.length = N) := ⟨_, Lib.hid rfl⟩
      have HLK := Lib.hid hlk
      have NL0 := allT_len2 (good_of HC.out) _ _ (Nat.le_refl _) HZ.out
      have LN : Hid (ls.length = nl) := Lib.hid (by rw [← hlk]; unfold lks; rw [List.length_map]; exact hnl.out)
      have n600 : nl ≤ 600 := by
        rw [LN.out, TL.out] at NL0
        have := N9.out
        omega
      rw [hnl.out]
      clear hg4 hz how hlr hlk NL0
      have x0 := RX4.out.cell 0 (by simp)
      simp only [List.getElem_cons_zero] at x0
      have hx := has_of_cell x0
      go_wp2_with fail
      refine (C5.out w4 GG4.out).mono ?_
      intro e w5 hgv
      rcases WAYS with ⟨hc, o, ho, hol, hnd, hnat, haf⟩ | ⟨co, ho, hc, c0, cn, haf⟩
      · rw [hc] at hgv
        obtain ⟨cv, rfl, hcw, _, hg5⟩ := hgv
        obtain ⟨ca, cc, rfl⟩ := owns_slice hcw
        have H45 := Lib.hid hg5
        have GG5 := Lib.hid (GG4.out.trans hg5)
        have G5 := Lib.hid (G4.out.trans hg5)
        have RX5 := Lib.hid (RX4.out.gr hg5)
        clear hg5 x0 hx
        have ND := Lib.hid hnd
        have NAT := Lib.hid hnat
        have AF := Lib.hid haf
        have HO := Lib.hid ho
        have OL : Hid (o.length = n) := Lib.hid (by rw [hol]; exact TL.out)
        clear hc hcw ho hol hnd hnat haf
        have x0 := RX5.out.cell 0 (by simp)
        simp only [List.getElem_cons_zero] at x0
        have hx := has_of_cell x0
        go_wp2_with fail
        refine (C6.out w5 GG5.out).mono ?_
        intro e w6 hgv
        rw [HO.out] at hgv
        obtain ⟨ov, rfl, hov, _, hg6⟩ := hgv
        obtain ⟨oa, oc, rfl⟩ := owns_slice hov
        have OW6 := Lib.hid hov
        have LW6 := Lib.hid (Gr.owns OW4.out (H45.out.trans hg6))
        have G6 := Lib.hid (G5.out.trans hg6)
        have RX6 := Lib.hid (RX5.out.gr hg6)
        clear hg6 x0 hx
        rw [OL.out]
        clear hov
        simp only [List.length_nil]
        have n9 := N9.out
        have hmk := run_make_row' (P := Tryz.prog) 38 3 (.int .i64 0) 8 Tryz.underlying38 infoInt rfl .i64 .i64 n (by omega) (by omega)
        go_wp2_with fail
        go_loopw [74] (fun s wr => s = .int .i64 0 ∧ Gr w6 wr) (fun _ _ => 0)
        case atStart => exact ⟨rfl, by first | exact Gr.refl _ | exact (Gr.refl _).drewN _⟩
        case round =>
          obtain ⟨rfl, hg⟩ := hrel
          have HG := Lib.hid hg
          have x0 := (RX6.out.gr hg).cell 0 (by simp)
          simp only [List.getElem_cons_zero] at x0
          have hx := has_of_cell x0
          clear hg
          go_wp2_with fail
          have RD := Lib.hid (Row.new wr (madeCells #[.int .i64 0] n) 3)
          obtain ⟨w7, hw7⟩ : ∃ W : World, Hid (W = wr.alloc (.cells (madeCells #[.int .i64 0] n) 3)) := ⟨_, Lib.hid rfl⟩
          rw [← hw7.out, made_one, show List.replicate n (Value.int .i64 0) = nums (List.replicate n (0 : Int)) by simp [nums]] at RD
          have g7 : Gr wr w7 := by rw [hw7.out]; exact (Gr.refl _).alloc _
          have G7 := Lib.hid (HG.out.trans g7)
          obtain ⟨DB, hDB⟩ : ∃ N : Nat, Hid (wr.heap.size = N) := ⟨_, Lib.hid rfl⟩
          have SB : Hid (w6.heap.size ≤ DB) := Lib.hid (by rw [← hDB.out]; exact HG.out.size)
          rw [← hw7.out, hDB.out]
          rw [hDB.out] at RD
          clear hmk hw7 g7 hDB x0 hx
          go_loopw [129] (fun s wr => ∃ (k : Nat) (zs : List Int), k ≤ n ∧ s = .int .i64 (k : Int) ∧ zs.length = n ∧ (∀ j, j < k → zs[j]? = some (-1)) ∧ Row wr DB 3 (nums zs) ∧ Gr w6 wr) (fun s _ => n - (intOf s).toNat)
          case atStart => exact ⟨0, List.replicate n 0, Nat.zero_le _, rfl, by simp, fun j h => by omega, RD.out, G7.out⟩
          case round =>
            clear RD G7 HG
            obtain ⟨k, zs, hk, rfl, hzl, hall, hrow, hg⟩ := hrel
            have HG := Lib.hid hg
            have RW := Lib.hid hrow
            have ZL := Lib.hid hzl
            have HA := Lib.hid hall
            clear hg hrow hall
            by_cases hlt : k < n
            · have hkz : k < zs.length := by omega
              have z0 := RW.out.iat k hkz
              obtain ⟨zk, hzk⟩ : ∃ z, zs[k] = z := ⟨_, rfl⟩
              rw [hzk] at z0
              have zf := RW.out.free k
              have hz := has_of_cell z0
              have kn : (k : Int) < (n : Int) := by omega
              have HLT := Lib.hid hlt
              have RW2 := Lib.hid (RW.out.iset k (-1))
              clear hzl hzk hkz hlt
              go_wp2_with fail
              go_roundw
              case rel => exact ⟨k + 1, zs.set k (-1), by have := HLT.out; omega, by go_num, by rw [List.length_set]; exact ZL.out, fun j hj => (by
                by_cases e : j = k
                · subst e; rw [List.getElem?_set_self (by have := ZL.out; have := HLT.out; omega)]
                · rw [List.getElem?_set_ne (by omega)]; exact HA.out j (by omega)), RW2.out, HG.out.setc SB.out⟩
              case measure => simp [intOf]; have := HLT.out; omega
            · have kn : ¬ (k : Int) < (n : Int) := by omega
              have e : k = n := by omega
              have PL0 : Hid (PlI o 0 n zs) := Lib.hid ⟨fun j _ h => by omega, fun x hx _ => HA.out x (by omega)⟩
              clear hlt hzl e
              go_wp2_with fail
              clear kn
              obtain ⟨w8, rfl⟩ : ∃ wo, wo = wr := ⟨_, rfl⟩
              go_loopw [138] (fun s wr => ∃ (k : Nat) (zs : List Int), k ≤ n ∧ s = .int .i64 (k : Int) ∧ zs.length = n ∧ PlI o k n zs ∧ Row wr DB 3 (nums zs) ∧ Gr w6 wr) (fun s _ => n - (intOf s).toNat)
              case atStart => exact ⟨0, zs, Nat.zero_le _, rfl, ZL.out, PL0.out, RW.out, HG.out⟩
              case round =>
                clear PL0 RW HG ZL HA hk
                obtain ⟨k, zs, hk, rfl, hzl, hpl, hrow, hg⟩ := hrel
                have HG := Lib.hid hg
                have RW := Lib.hid hrow
                have ZL := Lib.hid hzl
                have PL := Lib.hid hpl
                clear hg hrow hpl
                by_cases hlt : k < n
                · have hko : k < o.length := by rw [OL.out]; exact hlt
                  obtain ⟨g, eg, d0⟩ := nm_at (Gr.owns OW6.out HG.out) hko
                  subst eg
                  obtain ⟨x, ex, hxn⟩ := NAT.out _ (List.getElem_mem hko)
                  have HXN : Hid (x < n) := Lib.hid (by rw [← TL.out]; exact hxn)
                  have ZX : Hid (zs[x]? = some (-1)) := Lib.hid (PL.out.2 x HXN.out (fun j hj hjk e => (List.pairwise_iff_getElem.1 ND.out) j k hj hko hjk (by rw [e, ex])))
                  rw [ex] at d0
                  have hxz : x < zs.length := by rw [hzl]; exact HXN.out
                  have z0 := RW.out.iat x hxz
                  rw [show zs[x] = -1 by have := ZX.out; rw [List.getElem?_eq_getElem hxz] at this; exact Option.some.inj this] at z0
                  have zf := RW.out.free x
                  have hz := has_of_cell z0
                  have hd := has_of_cell d0
                  have kn : (k : Int) < (n : Int) := by omega
                  have xn : (x : Int) < (n : Int) := by have := HXN.out; omega
                  have xb : decide (n ≤ x) = false := by rw [decide_eq_false_iff_not]; have := HXN.out; omega
                  have HLT := Lib.hid hlt
                  have RW2 := Lib.hid (RW.out.iset x (k : Int))
                  have KO := Lib.hid hko
                  have PL2 : Hid (PlI o (k + 1) n (zs.set x (k : Int))) := Lib.hid (PL.out.next hko ex hxz HXN.out ND.out)
                  clear hzl hxz hlt ex hko hxn
                  go_wp2_with fail
                  go_roundw
                  case rel => exact ⟨k + 1, zs.set x (k : Int), by have := HLT.out; omega, by go_num, by rw [List.length_set]; exact ZL.out, PL2.out, RW2.out, HG.out.setc SB.out⟩
                  case measure => simp [intOf]; have := HLT.out; omega
                · have kn : ¬ (k : Int) < (n : Int) := by omega
                  obtain rfl : n = k := by omega
                  clear hlt hzl hk
                  go_wp2_with fail
                  clear kn
                  obtain ⟨w9, rfl⟩ : ∃ wo, wo = wr := ⟨_, rfl⟩
                  go_loopw [165] (fun s wr => ∃ m : Nat, m ≤ nl ∧ s = .int .i64 (m : Int) ∧ Row wr DB 3 (nums zs) ∧ Gr w6 wr) (fun s _ => nl - (intOf s).toNat)
                  case atStart => exact ⟨0, Nat.zero_le _, rfl, RW.out, HG.out⟩
                  case round =>
                    clear RW HG
                    obtain ⟨m, hm, rfl, hrow, hg⟩ := hrel
                    have HG := Lib.hid hg
                    have RW := Lib.hid hrow
                    clear hg hrow
                    by_cases hml : m < nl
                    · have hmt : m < lts.length := by rw [hnl.out]; exact hml
                      obtain ⟨g2, e2, _, p0, p1, p2, p3, p4⟩ := lk_at (Gr.owns LW6.out HG.out) hmt
                      subst e2
                      obtain ⟨t, ht⟩ : ∃ t, lts[m] = t := ⟨_, rfl⟩
                      have TM : Hid (t.l ∈ ls) := Lib.hid (by
                        rw [← HLK.out]
                        unfold lks
                        rw [← ht]
                        exact List.mem_map_of_mem (List.getElem_mem hmt))
                      rw [ht] at p0 p1 p2 p3 p4
                      obtain ⟨i, j, hi, hj, hji, ei, ej⟩ := AF.out _ TM.out
                      obtain ⟨pn, epn, hpn⟩ := NAT.out _ (List.getElem_mem hi)
                      obtain ⟨pp, epp, hpp⟩ := NAT.out _ (List.getElem_mem hj)
                      have q1 := PL.out.1 i hi (by rw [← OL.out]; exact hi)
                      have q2 := PL.out.1 j hj (by rw [← OL.out]; exact hj)
                      rw [epn, Int.toNat_natCast] at q1
                      rw [epp, Int.toNat_natCast] at q2
                      rw [← ei, epn] at p0
                      rw [← ej, epp] at p1
                      obtain ⟨z1, e1⟩ := List.getElem?_eq_some_iff.1 q1
                      obtain ⟨z2, e2⟩ := List.getElem?_eq_some_iff.1 q2
                      have HJI := Lib.hid hji
                      have pnn : (pn : Int) < (n : Int) := by have := TL.out; omega
                      have ppn : (pp : Int) < (n : Int) := by have := TL.out; omega
                      have CN : Hid (∀ W, Row W DB 3 (nums zs) → W.cell? ⟨DB, pn, none⟩ = some (.int .i64 (i : Int))) := Lib.hid (fun W hr => by rw [hr.iat pn z1, e1])
                      have CP : Hid (∀ W, Row W DB 3 (nums zs) → W.cell? ⟨DB, pp, none⟩ = some (.int .i64 (j : Int))) := Lib.hid (fun W hr => by rw [hr.iat pp z2, e2])
                      have hp := has_of_cell p0
                      have HML := Lib.hid hml
                      have mn : (m : Int) < (nl : Int) := by omega
                      clear ht hml hm ei ej epn epp hpn hpp q1 q2 z1 z2 e1 e2 hi hj hji
                      go_upto_region 40 with (fail)
                      have BX := Lib.hid (Row.new wr #[.int .i64 (pn : Int), .int .i64 (pp : Int), .string (bs t.l.prop), .int .i64 t.l.idx, .slice t.a t.l.args.length t.c] 40)
                      obtain ⟨wa, hwa⟩ : ∃ W : World, Hid (W = wr.alloc (.cells #[.int .i64 (pn : Int), .int .i64 (pp : Int), .string (bs t.l.prop), .int .i64 t.l.idx, .slice t.a t.l.args.length t.c] 40)) := ⟨_, Lib.hid rfl⟩
                      have ga : Gr wr wa := by rw [hwa.out]; exact (Gr.refl _).alloc _
                      rw [← hwa.out] at BX ⊢
                      obtain ⟨PX, hPX⟩ : ∃ N : Nat, Hid (wr.heap.size = N) := ⟨_, Lib.hid rfl⟩
                      rw [hPX.out] at BX ⊢
                      have GA := Lib.hid (HG.out.trans ga)
                      have RA := Lib.hid (RW.out.gr ga)
                      clear hwa hPX ga p0 p1 p2 p3 p4 hp
                      have y0 := BX.out.cell 0 (by simp)
                      have y1 := BX.out.cell 1 (by simp)
                      simp only [List.getElem_cons_zero, List.getElem_cons_succ] at y0 y1
                      have hy := has_of_cell y0
                      have d0 := CN.out wa RA.out
                      have d1 := CP.out wa RA.out
                      have hd := has_of_cell d0
                      have lt0 : decide (i ≤ j) = false := by rw [decide_eq_false_iff_not]; have := HJI.out; omega
                      have lt1 : ¬ (i : Int) ≤ (j : Int) := by have := HJI.out; omega
                      go_quiet (fail)
                      go_wp2_with fail
                      go_roundw
                      case rel => exact ⟨m + 1, by have := HML.out; omega, by go_num, by first | exact RA.out.drewN _ | exact RA.out, by first | exact GA.out.drewN _ | exact GA.out⟩
                      case measure => simp [intOf]; have := HML.out; omega
                    · have mn : ¬ (m : Int) < (nl : Int) := by omega
                      have x0 := (RX6.out.gr HG.out).cell 0 (by simp)
                      simp only [List.getElem_cons_zero] at x0
                      have hx := has_of_cell x0
                      clear hml hm
                      go_wp2_with fail
                      refine (awake12_any wr).mono ?_
                      rintro e w9 ⟨rfl, hg9⟩
                      go_wp2_with fail
                      rw [HP0.out]
                      exact ⟨rfl, (G6.out.trans HG.out).trans hg9⟩
      · rw [hc] at hgv
        obtain ⟨cv, rfl, hcw, _, hg5⟩ := hgv
        obtain ⟨ca, cc, rfl⟩ := owns_slice hcw
        have H45 := Lib.hid hg5
        have GG5 := Lib.hid (GG4.out.trans hg5)
        have G5 := Lib.hid (G4.out.trans hg5)
        have RX5 := Lib.hid (RX4.out.gr hg5)
        clear hg5 x0 hx
        have AF := Lib.hid haf
        have HO := Lib.hid ho
        obtain ⟨L, hL⟩ : ∃ N : Nat, Hid (co.length = N) := ⟨_, Lib.hid rfl⟩
        have L0 : Hid (0 < L ∧ L ≤ 200) := Lib.hid ⟨by rw [← hL.out]; exact c0, by rw [← hL.out]; have := TL.out; have := N9.out; omega⟩
        have CW5 := Lib.hid hcw
        rw [hL.out]
        clear hc hcw ho c0 cn haf
        have x0 := RX5.out.cell 0 (by simp)
        simp only [List.getElem_cons_zero] at x0
        have hx := has_of_cell x0
        go_wp2_with fail
        refine (C6.out w5 GG5.out).mono ?_
        intro e w6 hgv
        rw [HO.out] at hgv
        obtain ⟨rfl, hg6⟩ := hgv
        have LW6 := Lib.hid (Gr.owns OW4.out (H45.out.trans hg6))
        have CW6 := Lib.hid (Gr.owns CW5.out hg6)
        have G6 := Lib.hid (G5.out.trans hg6)
        have RX6 := Lib.hid (RX5.out.gr hg6)
        clear hg6 x0 hx
        obtain ⟨g, eg, _⟩ := nm_at CW6.out (j := 0) (by rw [hL.out]; exact L0.out.1)
        subst eg
        have lb : ((L : Int) == 0) = false := by rw [beq_eq_false_iff_ne]; have := L0.out; omega
        have l200 := L0.out.2
        clear CW5 H45 OW4
        go_wp2_with fail
        clear lb
        go_loopw [74] (fun s wr => ∃ i : Nat, i ≤ L ∧ s = .int .i64 (i : Int) ∧ Gr w6 wr) (fun s _ => L - (intOf s).toNat)
        case atStart => exact ⟨0, Nat.zero_le _, rfl, by first | exact Gr.refl _ | exact (Gr.refl _).drewN _⟩
        case round =>
          obtain ⟨i, hi, rfl, hg⟩ := hrel
          have HG := Lib.hid hg
          clear hg
          by_cases hlt : i < L
          · have hic : i < co.length := by rw [hL.out]; exact hlt
            obtain ⟨nx, hnx⟩ : ∃ N : Nat, Hid ((i + 1) % co.length = N) := ⟨_, Lib.hid rfl⟩
            have NXL : Hid (nx < co.length) := Lib.hid (by rw [← hnx.out]; exact Nat.mod_lt _ (by rw [hL.out]; exact L0.out.1))
            have AFI := Lib.hid (AF.out i hic (by rw [hnx.out]; exact NXL.out) (by rw [hL.out]; exact L0.out.1))
            obtain ⟨ci, hci⟩ : ∃ z, co[i] = z := ⟨_, rfl⟩
            obtain ⟨cx, hcx⟩ : ∃ z, co[nx]'(NXL.out) = z := ⟨_, rfl⟩
            obtain ⟨cz, hcz⟩ : ∃ z, co[0]'(by rw [hL.out]; exact L0.out.1) = z := ⟨_, rfl⟩
            have DI : Hid (∀ W, Gr w6 W → W.cell? ⟨g, i, none⟩ = some (.int .i64 ci)) := Lib.hid (fun W hg => by
              obtain ⟨g2, e2, d⟩ := nm_at (Gr.owns CW6.out hg) hic
              cases e2
              rw [d, hci])
            have DX : Hid (∀ W, Gr w6 W → W.cell? ⟨g, nx, none⟩ = some (.int .i64 cx)) := Lib.hid (fun W hg => by
              obtain ⟨g2, e2, d⟩ := nm_at (Gr.owns CW6.out hg) NXL.out
              cases e2
              rw [d, hcx])
            have DZ : Hid (∀ W, Gr w6 W → W.cell? ⟨g, 0, none⟩ = some (.int .i64 cz)) := Lib.hid (fun W hg => by
              obtain ⟨g2, e2, d⟩ := nm_at (Gr.owns CW6.out hg) (j := 0) (by rw [hL.out]; exact L0.out.1)
              cases e2
              rw [d, hcz])
            have EX : Hid ((∃ x ∈ ls, x.node = ci ∧ x.prov = cx) ∧ cz ≤ ci) := Lib.hid (by
              obtain ⟨⟨x, hx, e1, e2⟩, e3⟩ := AFI.out
              refine ⟨⟨x, hx, by rw [e1, hci], ?_⟩, by rw [hcz, hci] at e3; exact e3⟩
              rw [e2, ← hcx]
              congr 1
              try exact hnx.out)
            have m1 : ((i : Int) + 1) % (L : Int) = (nx : Int) := by
              have := hnx.out
              rw [hL.out] at this
              rw [show ((i : Int) + 1) = ((i + 1 : Nat) : Int) by omega, ← Int.natCast_emod, this]
            have m2 : ((i : Int) + 1).tmod (L : Int) = (nx : Int) := by rw [Int.tmod_eq_emod_of_nonneg (by omega)]; exact m1
            have nxl : (nx : Int) < (L : Int) := by have := NXL.out; rw [hL.out] at this; omega
            have iL : (i : Int) < (L : Int) := by omega
            have lne : (L : Int) ≠ 0 := by omega
            have HLT := Lib.hid hlt
            have M12 := Lib.hid (And.intro m1 m2)
            clear hci hcx hcz hlt hi hic m1 m2 lne AFI
            go_wp2_with fail
            obtain ⟨w7, rfl⟩ : ∃ wo, wo = wr := ⟨_, rfl⟩
            go_loopw [12, 79] (fun f s wr => ∃ m : Nat, m ≤ nl ∧ s = .int .i64 (m : Int) ∧ f = .bool ((ls.take m).any (fun x => x.node == ci && x.prov == cx)) ∧ Gr w6 wr) (fun _ s _ => nl - (intOf s).toNat)
            case atStart => exact ⟨0, Nat.zero_le _, rfl, rfl, HG.out⟩
            case round =>
              clear HG
              obtain ⟨m, hm, rfl, rfl, hg⟩ := hrel
              have HG := Lib.hid hg
              clear hg
              by_cases hml : m < nl
              · have hmt : m < lts.length := by rw [hnl.out]; exact hml
                obtain ⟨g2, e2, _, p0, p1, p2, p3, p4⟩ := lk_at (Gr.owns LW6.out HG.out) hmt
                subst e2
                obtain ⟨t, ht⟩ : ∃ t, lts[m] = t := ⟨_, rfl⟩
                have AN : Hid ((ls.take (m + 1)).any (fun x => x.node == ci && x.prov == cx) = ((ls.take m).any (fun x => x.node == ci && x.prov == cx) || (t.l.node == ci && t.l.prov == cx))) := Lib.hid (by
                  have hml2 : m < ls.length := by rw [LN.out]; exact hml
                  rw [any_snoc _ _ _ hml2]
                  have e : ls[m] = t.l := by
                    have q := lks_get hmt
                    rw [ht] at q
                    rw [← q]
                    congr 1
                    exact HLK.out.symm
                  rw [e])
                rw [ht] at p0 p1 p2 p3 p4
                have hp := has_of_cell p0
                have HML := Lib.hid hml
                have mn : (m : Int) < (nl : Int) := by omega
                obtain ⟨F, hF⟩ : ∃ F, (ls.take m).any (fun x => x.node == ci && x.prov == cx) = F := ⟨_, rfl⟩
                rw [hF] at AN ⊢
                clear ht hml hm hF
                go_upto_region 17 with (fail)
                have BX := Lib.hid (Row.new wr #[.int .i64 t.l.node, .int .i64 t.l.prov, .string (bs t.l.prop), .int .i64 t.l.idx, .slice t.a t.l.args.length t.c] 40)
                obtain ⟨w8, hw8⟩ : ∃ W : World, Hid (W = wr.alloc (.cells #[.int .i64 t.l.node, .int .i64 t.l.prov, .string (bs t.l.prop), .int .i64 t.l.idx, .slice t.a t.l.args.length t.c] 40)) := ⟨_, Lib.hid rfl⟩
                have g8 : Gr wr w8 := by rw [hw8.out]; exact (Gr.refl _).alloc _
                rw [← hw8.out] at BX ⊢
                obtain ⟨PX, hPX⟩ : ∃ N : Nat, Hid (wr.heap.size = N) := ⟨_, Lib.hid rfl⟩
                rw [hPX.out] at BX ⊢
                have G8 := Lib.hid (HG.out.trans g8)
                clear hw8 hPX g8 p0 p1 p2 p3 p4 hp
                have y0 := BX.out.cell 0 (by simp)
                have y1 := BX.out.cell 1 (by simp)
                simp only [List.getElem_cons_zero, List.getElem_cons_succ] at y0 y1
                have hy := has_of_cell y0
                have d0 := DI.out w8 G8.out
                have d1 := DX.out w8 G8.out
                have hd := has_of_cell d0
                have m1 := M12.out.1
                have m2 := M12.out.2
                cases F with
                | true =>
                  go_quiet (fail)
                  go_wp2_with fail
                  go_roundw
                  case rel => exact ⟨m + 1, by have := HML.out; omega, by go_num, by rw [AN.out]; rfl, by first | exact G8.out.drewN _ | exact G8.out⟩
                  case measure => simp [intOf]; have := HML.out; omega
                | false =>
                  by_cases hnb : t.l.node = ci
                  · have nb : (t.l.node == ci) = true := beq_iff_eq.2 hnb
                    have AN2 : Hid ((ls.take (m + 1)).any (fun x => x.node == ci && x.prov == cx) = (t.l.prov == cx)) := Lib.hid (by rw [AN.out, nb]; simp)
                    clear hnb
                    go_quiet (fail)
                    go_wp2_with fail
                    go_roundw
                    case rel => exact ⟨m + 1, by have := HML.out; omega, by go_num, by rw [AN2.out], by first | exact G8.out.drewN _ | exact G8.out⟩
                    case measure => simp [intOf]; have := HML.out; omega
                  · have nb : (t.l.node == ci) = false := by rw [beq_eq_false_iff_ne]; exact hnb
                    have AN2 : Hid ((ls.take (m + 1)).any (fun x => x.node == ci && x.prov == cx) = false) := Lib.hid (by rw [AN.out, nb]; rfl)
                    clear hnb
                    go_quiet (fail)
                    go_wp2_with fail
                    go_roundw
                    case rel => exact ⟨m + 1, by have := HML.out; omega, by go_num, by rw [AN2.out], by first | exact G8.out.drewN _ | exact G8.out⟩
                    case measure => simp [intOf]; have := HML.out; omega
              · have FT : (ls.take m).any (fun x => x.node == ci && x.prov == cx) = true := by
                  obtain ⟨x, hx, e1, e2⟩ := EX.out.1
                  rw [List.take_of_length_le (by rw [LN.out]; omega), List.any_eq_true]
                  exact ⟨x, hx, by simp [e1, e2]⟩
                rw [FT]
                have mn : ¬ (m : Int) < (nl : Int) := by omega
                clear FT hml hm
                go_wp2_with fail
                have d0 := DI.out wr HG.out
                have dz := DZ.out wr HG.out
                have hd := has_of_cell d0
                have lt0 : decide (ci < cz) = false := by rw [decide_eq_false_iff_not]; have := EX.out.2; omega
                have zL : (0 : Int) < (L : Int) := by omega
                go_quiet (fail)
                go_wp2_with fail
                go_roundw
                case rel => exact ⟨i + 1, by have := HLT.out; omega, by go_num, by first | exact HG.out.drewN _ | exact HG.out⟩
                case measure => simp [intOf]; have := HLT.out; omega
          · have iL : ¬ (i : Int) < (L : Int) := by omega
            clear hlt
            go_wp2_with fail
            refine (awake12_any wr).mono ?_
            rintro e w9 ⟨rfl, hg9⟩
            go_wp2_with fail
            rw [HP0.out]
            exact ⟨rfl, (G6.out.trans HG.out).trans hg9⟩
  · have HB := Lib.hid hbig
    clear hbig
    have C4 := rAll_big ts va vc [99, 108, 111, 99, 107, 115] [35, 99, 101, 108, 108, 115] 0 w3 SL3.out VLL.out HB.out
    rw [TL.out] at C4
    have x0 := RX3.out.cell 0 (by simp)
    simp only [List.getElem_cons_zero] at x0
    have hx := has_of_cell x0
    go_wp2_with fail
    refine C4.mono ?_
    rintro e w4 ⟨rfl, hg4⟩
    have GG4 : Hid (Gr w3 w4) := Lib.hid hg4
    clear C4
    have G4 := Lib.hid (G3.out.trans hg4)
    have RX4 := Lib.hid (RX3.out.gr hg4)
    clear hg4 x0 hx
    have C5 := circle_big ts va vc [99, 108, 111, 99, 107, 115] [35, 99, 101, 108, 108, 115] 0 w4 (SL3.out.gr RNod.mono GG4.out) VLL.out HB.out
    rw [TL.out] at C5
    have x0 := RX4.out.cell 0 (by simp)
    simp only [List.getElem_cons_zero] at x0
    have hx := has_of_cell x0
    go_wp2_with fail
    refine C5.mono ?_
    rintro e w5 ⟨rfl, hg5⟩
    have GG5 : Hid (Gr w3 w5) := Lib.hid (GG4.out.trans hg5)
    clear C5
    have G5 := Lib.hid (G4.out.trans hg5)
    have RX5 := Lib.hid (RX4.out.gr hg5)
    clear hg5 x0 hx
    have C6 := order_big ts va vc [99, 108, 111, 99, 107, 115] [35, 99, 101, 108, 108, 115] 0 w5 (SL3.out.gr RNod.mono GG5.out) VLL.out HB.out
    rw [TL.out] at C6
    have x0 := RX5.out.cell 0 (by simp)
    simp only [List.getElem_cons_zero] at x0
    have hx := has_of_cell x0
    go_wp2_with fail
    refine C6.mono ?_
    rintro e w6 ⟨rfl, hg6⟩
    have GG6 : Hid (Gr w3 w6) := Lib.hid (GG5.out.trans hg6)
    clear C6
    have G6 := Lib.hid (G5.out.trans hg6)
    have RX6 := Lib.hid (RX5.out.gr hg6)
    clear hg6 x0 hx
    go_wp2_with fail
    refine (awake12_any w6).mono ?_
    rintro e w9 ⟨rfl, hg9⟩
    go_wp2_with fail
    rw [HP0.out]
    exact ⟨rfl, G6.out.trans hg9⟩
end Go.Proofs.YtdjhnfopdlgliaaGreat

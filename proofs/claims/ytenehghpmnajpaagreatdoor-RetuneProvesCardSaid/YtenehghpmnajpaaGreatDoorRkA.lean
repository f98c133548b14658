/- Contract of the reference's Check for settings, where clocks, limits and the two settings are right and calm. -/
import Derived.Test.YtenehghpmnajpaaGreatDoorRnA
import Derived.Test.YtenehghpmnajpaaGreatDoorRkP
import Derived.Test.YtenehghpmnajpaaGreatDoorSoI
set_option linter.unusedVariables false
set_option linter.unusedSimpArgs false
namespace Go.Proofs.YtenehghpmnajpaaGreatDoor
open Go.RowKit
open Classical

theorem made_false (n : Nat) : (madeCells #[Value.bool false] n).toList = bools (List.replicate n false) := by
  apply List.ext_getElem
  · simp [madeCells, bools]
  · intro i h1 h2
    simp [madeCells, Nat.mod_one, bools]
set_option maxRecDepth 100000 in
set_option maxHeartbeats 4000000 in
theorem rCheck3_any (l : List Clk) (ms : List Lmt) (f t : List Int) (cs : List (List Int)) (al am af at' ac : Option Addr) (cl cm cf ct cc : Nat) (w : World) (henv : Env w l ms al am) (hf : SetOk l f) (ht : SetOk l t) (sf : SlOf 1 RI w af f) (st : SlOf 1 RI w at' t) (sc : SlOf 1 RSet w ac cs) (ho : SetsOk l cs) (hcs : cs.length ≤ 1000000) (h1 : 1 ≤ l.length) (cf' : calS l ms f = true) (ct' : calS l ms t = true) :
    Calls Tryz.prog 33 #[.slice al l.length cl, .slice af f.length cf, .slice at' t.length ct, .slice am ms.length cm, .slice ac cs.length cc] w (Grows w (.bool (decide (ChkC l (calS l ms) f t cs)))) := by
  have hnb := small_len (cchk_zero henv.chk).1
  have hfl : f.length = l.length := hf.1
  have htl : t.length = l.length := ht.1
  have BG := refBegin_any l ms f t al am af at' cl cm cf ct w henv hf ht sf st cf' ct'
  rw [hfl, htl] at BG
  have HE := Lib.hid henv
  have SF := Lib.hid sf
  have ST := Lib.hid st
  have SC := Lib.hid sc
  have TF := Lib.hid hf
  have TT := Lib.hid ht
  have HO := Lib.hid ho
  have BG' := Lib.hid BG
  have CN := Lib.hid (fun W (hW : Gr w W) => refCount_any l al cl W (clks_gr henv.clks hW) henv.chk)
  have PR := (cchk_zero henv.chk).2.2.1
  have NB := Lib.hid (cchk_zero henv.chk).1
  obtain ⟨N, hN⟩ : ∃ N, prodC l = N := ⟨_, rfl⟩
  have EN := Lib.hid hN
  rw [hN] at PR CN
  obtain ⟨i0, hi, hz0, hz1, hz2⟩ := info_parts infoBool
  have hmk : ∀ W : World, (Instr.makeSlice 88 (.int .i64 (N : Int)) (.int .i64 (N : Int))).run Tryz.prog W = .ok (.slice (some ⟨W.heap.size, 0, none⟩) N N) (W.alloc (.cells (madeCells #[.bool false] N) 4)) := fun W => by
    have hr := run_make (P := Tryz.prog) W 88 4 i0 (.bool false) Tryz.underlying88 hi hz0 .i64 .i64 N N (by omega) (Int.le_refl _) (by rw [hz2]; omega) (by omega)
    simp only [Int.toNat_natCast, hz1, Nat.mul_one] at hr
    exact hr
  obtain ⟨P, hP⟩ : ∃ P : Prop, P = ChkC l (calS l ms) f t cs := ⟨_, rfl⟩
  rw [← hP]
  have HP := Lib.hid hP
  clear BG henv hf ht sf st sc ho cf' ct' hP hN
  go_enter Tryz.func33, Tryz.ntmps33
  go_wp2_with fail
  refine BG'.out.mono ?_
  rintro e w1 ⟨rfl, hg1⟩
  have G1 := Lib.hid hg1
  clear hg1 BG'
  go_wp2_with fail
  refine (CN.out w1 G1.out).mono ?_
  rintro e w2 ⟨rfl, hg2⟩
  have G2 := Lib.hid (G1.out.trans hg2)
  clear hg2 CN G1
  go_wp2_with fail
  obtain ⟨IN, hIN⟩ : ∃ IN : Nat, Hid (w2.heap.size = IN) := ⟨_, Lib.hid rfl⟩
  rw [hIN.out]
  obtain ⟨W3, hW3⟩ : ∃ W3 : World, Hid (W3 = w2.alloc (.cells (madeCells #[.bool false] N) 4)) := ⟨_, Lib.hid rfl⟩
  rw [← hW3.out]
  have R3 : Hid (Row W3 IN 4 (bools (inV l cs N 0))) := Lib.hid (by
    have := Row.new w2 (madeCells #[.bool false] N) 4
    rw [made_false, ← hW3.out, hIN.out] at this
    rwa [inV_zero])
  have G3 : Hid (Gr w W3) := Lib.hid (by rw [hW3.out]; exact G2.out.alloc _)
  have LIN : Hid (w.heap.size ≤ IN) := Lib.hid (by have := hIN.out; have := G2.out.size; omega)
  clear hW3 hIN G2 hmk
  go_loopw [12, 32] (fun s12 s32 wr => ∃ k : Nat, s32 = .int .i64 (k : Int) ∧ s12 = .int .i64 (lastN l cs k) ∧ k ≤ cs.length ∧ risTo l (calS l ms) cs k ∧ Row wr IN 4 (bools (inV l cs N k)) ∧ Gr w wr) (fun _ s32 _ => cs.length - (intOf s32).toNat)
  case atStart => exact ⟨0, rfl, rfl, Nat.zero_le _, trivial, R3.out, G3.out⟩
  case round =>
    clear R3 G3
    obtain ⟨k, rfl, rfl, hk, hris, hrow, hg⟩ := hrel
    have RS := Lib.hid hris
    have RW := Lib.hid hrow
    have HG := Lib.hid hg
    have lb := lastN_bound HE.out.chk HO.out hk
    by_cases hlt : k < cs.length
    · have k2 : (k : Int) < cs.length := by omega
      obtain ⟨b, o, rfl, a, c, q0, hsl⟩ := (SC.out.gr RSet.mono hg).one k hlt
      have hsk := HO.out _ (List.getElem_mem hlt)
      obtain ⟨s, hs⟩ : ∃ s, cs[k] = s := ⟨_, rfl⟩
      rw [hs] at q0 hsl hsk
      rw [hsk.1] at q0
      have HSK := Lib.hid hs
      have SK := Lib.hid hsk
      have CA : Hid (Calls Tryz.prog 41 #[.slice al l.length cl, .slice a l.length c, .slice am ms.length cm] wr (Grows wr (.bool (calS l ms s)))) := Lib.hid (by
        have := refCalm_any l ms s al a am cl c cm wr (clks_gr HE.out.clks hg) hsl (lmts_gr HE.out.lmts hg) HE.out.chk hsk HE.out.lims
        rwa [hsk.1] at this)
      have N1 : Hid (∀ W, Gr wr W → Calls Tryz.prog 91 #[.slice al l.length cl, .slice a l.length c] W (Grows W (.int .i64 (num l s)))) := Lib.hid (fun W hW => by
        have := refNumber_any l s al a cl c W (clks_gr HE.out.clks (hg.trans hW)) (hsl.giI hW) HE.out.chk hsk
        rwa [hsk.1] at this)
      have NBs := num_bound hsk
      rw [EN.out] at NBs
      obtain ⟨m, hm⟩ : ∃ m : Nat, num l s = (m : Int) := ⟨(num l s).toNat, by omega⟩
      obtain ⟨last, hlast⟩ : ∃ last, lastN l cs k = last := ⟨_, rfl⟩
      rw [hm] at N1 NBs
      rw [hlast] at lb ⊢
      have HM := Lib.hid hm
      have HL := Lib.hid hlast
      have qh := has_of_cell q0
      clear hris hrow hs hsk hsl hm hlast
      cases hc : calS l ms s with
      | false =>
        rw [hc] at CA
        have HC := Lib.hid hc
        clear hc hg
        go_wp2_with fail
        refine CA.out.mono ?_
        rintro e w3 ⟨rfl, hg3⟩
        have G3 := Lib.hid (HG.out.trans hg3)
        clear hg3
        go_wp2_with fail
        go_ret
        refine ⟨?_, G3.out⟩
        have hn : ¬ P := by
          rw [HP.out]
          rintro ⟨hr, _⟩
          have := (hr.le (k := k + 1) (by omega)).2.1
          rw [getD_at hlt, HSK.out, HC.out] at this
          cases this
        rw [decide_eq_false hn]; rfl
      | true =>
        rw [hc] at CA
        have HC := Lib.hid hc
        clear hc hg
        go_wp2_with fail
        refine CA.out.mono ?_
        rintro e w3 ⟨rfl, hg3⟩
        have G3 := Lib.hid hg3
        clear hg3 CA
        go_wp2_with fail
        refine (N1.out w3 G3.out).mono ?_
        rintro e w4 ⟨rfl, hg4⟩
        have G4 := Lib.hid (G3.out.trans hg4)
        clear hg4 G3
        by_cases hml : last < (m : Int)
        · have hb : decide ((m : Int) ≤ last) = false := decide_eq_false (by omega)
          have ML := Lib.hid hml
          clear hml
          go_wp2_with fail
          refine (N1.out w4 G4.out).mono ?_
          rintro e w5 ⟨rfl, hg5⟩
          have G5 := Lib.hid (G4.out.trans hg5)
          have r5 := RW.out.gr G5.out
          have c5 := r5.cell m (by rw [bools_len, inV_len]; omega)
          have f5 := r5.free m
          have h5 := r5.has
          have R5 := Lib.hid r5
          have m2 : (m : Int) < (N : Int) := NBs.2
          clear hg5 G4 r5
          go_wp2_with fail
          go_roundw
          case rel =>
            refine ⟨k + 1, by go_num, by rw [← HM.out, ← HSK.out]; simp only [lastN]; rw [getD_at hlt], by omega, ⟨RS.out, by rw [getD_at hlt, HSK.out]; exact HC.out, by rw [getD_at hlt, HSK.out, HM.out, HL.out]; exact ML.out⟩, ?_, (HG.out.trans G5.out).setc LIN.out⟩
            have := R5.out.bset m true
            rwa [inV_step hlt (by rw [HSK.out]; exact HM.out)] at this
          case measure => simp [intOf]; omega
        · have hb : decide ((m : Int) ≤ last) = true := decide_eq_true (by omega)
          have ML := Lib.hid hml
          clear hml
          go_wp2_with fail
          go_ret
          refine ⟨?_, HG.out.trans G4.out⟩
          have hn : ¬ P := by
            rw [HP.out]
            rintro ⟨hr, _⟩
            have := (hr.le (k := k + 1) (by omega)).2.2
            rw [getD_at hlt, HSK.out, HM.out, HL.out] at this
            have := ML.out
            omega
          rw [decide_eq_false hn]; rfl
    · obtain rfl : k = cs.length := by omega
      have NF : Hid (∀ W, Gr wr W → Calls Tryz.prog 91 #[.slice al l.length cl, .slice af l.length cf] W (Grows W (.int .i64 (num l f)))) := Lib.hid (fun W hW => by
        have := refNumber_any l f al af cl cf W (clks_gr HE.out.clks (hg.trans hW)) (SF.out.giI (hg.trans hW)) HE.out.chk TF.out
        rwa [hfl] at this)
      have NT : Hid (∀ W, Gr wr W → Calls Tryz.prog 91 #[.slice al l.length cl, .slice at' l.length ct] W (Grows W (.int .i64 (num l t)))) := Lib.hid (fun W hW => by
        have := refNumber_any l t al at' cl ct W (clks_gr HE.out.clks (hg.trans hW)) (ST.out.giI (hg.trans hW)) HE.out.chk TT.out
        rwa [htl] at this)
      have CELL : Hid (∀ (x : List Int) (m : Nat) (W : World), SetOk l x → num l x = (m : Int) → Gr wr W → W.cell? ⟨IN, m, none⟩ = some (.bool (decide (x ∈ cs)))) := Lib.hid (fun x m W hx hm hW => by
        have hb := num_bound hx
        rw [EN.out, hm] at hb
        have := (hrow.gr hW).bat m (by rw [inV_len]; omega)
        rwa [inV_all HO.out hx hm] at this)
      have BNf := num_bound TF.out
      have BNt := num_bound TT.out
      rw [EN.out] at BNf BNt
      obtain ⟨mf, hmf⟩ : ∃ m : Nat, num l f = (m : Int) := ⟨(num l f).toNat, by omega⟩
      obtain ⟨mt, hmt⟩ : ∃ m : Nat, num l t = (m : Int) := ⟨(num l t).toNat, by omega⟩
      rw [hmf] at NF BNf
      rw [hmt] at NT BNt
      have MF := Lib.hid hmf
      have MT := Lib.hid hmt
      obtain ⟨x, hx⟩ : ∃ x, decide (f ∈ cs) = x := ⟨_, rfl⟩
      obtain ⟨y, hy⟩ : ∃ y, decide (t ∈ cs) = y := ⟨_, rfl⟩
      have HX := Lib.hid hx
      have HY := Lib.hid hy
      have bf2 : (mf : Int) < (N : Int) := BNf.2
      have bt2 : (mt : Int) < (N : Int) := BNt.2
      clear hris hrow hmf hmt BNf BNt hx hy hg
      go_wp2_with fail
      refine (NF.out wr (Gr.refl _)).mono ?_
      rintro e w3 ⟨rfl, hg3⟩
      have c3 := CELL.out f mf w3 TF.out MF.out hg3
      rw [HX.out] at c3
      have h3 := has_of_cell c3
      have G3 := Lib.hid hg3
      clear hg3 NF
      cases x with
      | false =>
        go_wp2_with fail
        go_ret
        refine ⟨?_, HG.out.trans G3.out⟩
        have hn : ¬ P := by
          rw [HP.out]
          rintro ⟨_, hr, _⟩
          have := HX.out
          simp [hr] at this
        rw [decide_eq_false hn]; rfl
      | true =>
        go_wp2_with fail
        refine (NT.out w3 G3.out).mono ?_
        rintro e w4 ⟨rfl, hg4⟩
        have c4 := CELL.out t mt w4 TT.out MT.out (G3.out.trans hg4)
        rw [HY.out] at c4
        have h4 := has_of_cell c4
        have G4 := Lib.hid (G3.out.trans hg4)
        clear hg4 NT c3 h3
        cases y with
        | true =>
          go_wp2_with fail
          go_ret
          refine ⟨?_, HG.out.trans G4.out⟩
          have hn : ¬ P := by
            rw [HP.out]
            rintro ⟨_, _, hr, _⟩
            have := HY.out
            simp [hr] at this
          rw [decide_eq_false hn]; rfl
        | false =>
          go_wp2_with fail
          obtain ⟨wi, rfl⟩ : ∃ wi : World, wi = wr := ⟨_, rfl⟩
          clear c4 h4
          go_loopw [72] (fun s72 wr => ∃ i : Nat, i ≤ cs.length ∧ s72 = .int .i64 (i : Int) ∧ Gr wi wr ∧ Hid (∀ j (hj : j < cs.length), j < i → ∀ u v : Nat, u < l.length → (v : Int) < kOf l u → ¬ badS (calS l ms) cs cs[j] u v)) (fun s72 _ => cs.length - (intOf s72).toNat)
          case atStart => exact ⟨0, Nat.zero_le _, rfl, G4.out, Lib.hid (fun j _ h => by omega)⟩
          case round =>
            obtain ⟨i, hi', rfl, hg5, hdone⟩ := hrel
            have G5 := Lib.hid hg5
            by_cases hlt : i < cs.length
            · have i2 : (i : Int) < cs.length := by omega
              obtain ⟨b, o, rfl, a, c, q0, hsl⟩ := (SC.out.gr RSet.mono (HG.out.trans hg5)).one i hlt
              have hsk := HO.out _ (List.getElem_mem hlt)
              have hsm := List.getElem_mem hlt
              obtain ⟨s, hs⟩ : ∃ s, cs[i] = s := ⟨_, rfl⟩
              rw [hs] at q0 hsl hsk hsm
              rw [hsk.1] at q0
              have HSK := Lib.hid hs
              have SK := Lib.hid hsk
              have SM := Lib.hid hsm
              have SL := Lib.hid hsl
              have qh := has_of_cell q0
              clear hs hsk hsm hsl hg5
              go_wp2_with fail
              obtain ⟨wj, rfl⟩ : ∃ wj : World, wj = wr := ⟨_, rfl⟩
              clear q0 qh
              go_loopw [78] (fun s78 wr => ∃ u : Nat, u ≤ l.length ∧ s78 = .int .i64 (u : Int) ∧ Gr wj wr ∧ Hid (∀ u' v : Nat, u' < u → u' < l.length → (v : Int) < kOf l u' → ¬ badS (calS l ms) cs s u' v)) (fun s78 _ => l.length - (intOf s78).toNat)
              case atStart => exact ⟨0, Nat.zero_le _, rfl, Gr.refl _, Lib.hid (fun u v h => by omega)⟩
              case round =>
                obtain ⟨u, hu, rfl, hg6, hdu⟩ := hrel
                have G6 := Lib.hid hg6
                by_cases hlu : u < l.length
                · have u2 : (u : Int) < l.length := by omega
                  obtain ⟨bl, ol, rfl, ⟨d0, _⟩, ⟨ap, cp, d1, _⟩, ⟨ach, cch, d2, d2l, d2f, _⟩, ⟨d3, _⟩, ⟨d4, _⟩⟩ := clks_gr HE.out.clks (HG.out.trans (G5.out.trans hg6)) u hlu
                  unfold Fit at d2f
                  have KO : Hid (kOf l u = (l[u].choices.length : Int)) := Lib.hid (kOf_at hlu)
                  have dh := has_of_cell d0
                  clear hg6
                  go_wp2_with fail
                  obtain ⟨wk, hwk⟩ : ∃ wk : World, Hid (wk = wr.alloc (.cells #[.int .i64 l[u].kind, .slice ap l[u].parents.length cp, .slice ach l[u].choices.length cch, .int .i64 l[u].low, .int .i64 l[u].high] 79)) := ⟨_, Lib.hid rfl⟩
                  rw [← hwk.out]
                  have Gk : Hid (Gr wj wk) := Lib.hid (by rw [hwk.out]; exact G6.out.alloc _)
                  clear hwk d0 d1 d2 d3 d4 dh G6
                  go_loopw [86] (fun s86 wr => ∃ v : Nat, v ≤ l[u].choices.length ∧ s86 = .int .i64 (v : Int) ∧ Gr wk wr ∧ Hid (∀ v' : Nat, v' < v → ¬ badS (calS l ms) cs s u v')) (fun s86 _ => l[u].choices.length - (intOf s86).toNat)
                  case atStart => exact ⟨0, Nat.zero_le _, rfl, Gr.refl _, Lib.hid (fun v h => by omega)⟩
                  case round =>
                    obtain ⟨v, hv, rfl, hg7, hdv⟩ := hrel
                    have G7 := Lib.hid (Gk.out.trans hg7)
                    have G7k := Lib.hid hg7
                    by_cases hlv : v < l[u].choices.length
                    · have v2 : (v : Int) < l[u].choices.length := by omega
                      have CH := changed_any s u (v : Int) a c wr (SL.out.giI G7.out) (by rw [SK.out.1]; exact hlu) (by rw [SK.out.1]; exact hnb)
                      rw [SK.out.1] at CH
                      have CH' := Lib.hid CH
                      have hs2 := SK.out.set hlu (show 0 ≤ (v : Int) by omega) (by rw [KO.out]; exact v2)
                      have S2 := Lib.hid hs2
                      have BNx := num_bound hs2
                      rw [EN.out] at BNx
                      obtain ⟨m, hm⟩ : ∃ m : Nat, num l (s.set u (v : Int)) = (m : Int) := ⟨(num l (s.set u (v : Int))).toNat, by omega⟩
                      rw [hm] at BNx
                      have HM := Lib.hid hm
                      have m2 : (m : Int) < (N : Int) := BNx.2
                      clear CH hg7 hs2 hm BNx
                      go_wp2_with fail
                      refine CH'.out.mono ?_
                      rintro e w5 ⟨B5, c5, rfl, hr5, _, hg5⟩
                      have G75 := Lib.hid (G7.out.trans hg5)
                      have H75 := Lib.hid hg5
                      have GW := Lib.hid (HG.out.trans (G5.out.trans G75.out))
                      have N5 : Hid (Calls Tryz.prog 91 #[.slice (some ⟨bl, ol, none⟩) l.length cl, .slice (some ⟨B5, 0, none⟩) l.length c5] w5 (Grows w5 (.int .i64 (m : Int)))) := Lib.hid (by
                        have := refNumber_any l (s.set u (v : Int)) (some ⟨bl, ol, none⟩) (some ⟨B5, 0, none⟩) cl c5 w5 (clks_gr HE.out.clks GW.out) (hr5.slI (setOk_wide HE.out.chk S2.out)) HE.out.chk S2.out
                        rwa [S2.out.1, HM.out] at this)
                      have R5 := Lib.hid hr5
                      clear CH' hr5 hg5
                      go_wp2_with fail
                      refine N5.out.mono ?_
                      rintro e w6 ⟨rfl, hg6⟩
                      have c6 := CELL.out (s.set u (v : Int)) m w6 S2.out HM.out (G5.out.trans (G75.out.trans hg6))
                      have h6 := has_of_cell c6
                      have G6 := Lib.hid (G75.out.trans hg6)
                      have G76 := Lib.hid (H75.out.trans hg6)
                      have K6 : Hid (Calls Tryz.prog 93 #[.slice (some ⟨bl, ol, none⟩) l.length cl, .slice (some ⟨B5, 0, none⟩) l.length c5, .slice am ms.length cm] w6 (Grows w6 (.bool (calS l ms (s.set u (v : Int)))))) := Lib.hid (by
                        have := refCalm1_any l ms (s.set u (v : Int)) (some ⟨bl, ol, none⟩) (some ⟨B5, 0, none⟩) am cl c5 cm w6 (clks_gr HE.out.clks (GW.out.trans hg6)) ((R5.out.gr hg6).slI (setOk_wide HE.out.chk S2.out)) (lmts_gr HE.out.lmts (GW.out.trans hg6)) HE.out.chk S2.out HE.out.lims
                        rwa [S2.out.1] at this)
                      obtain ⟨z, hz⟩ : ∃ z, decide (s.set u (v : Int) ∈ cs) = z := ⟨_, rfl⟩
                      rw [hz] at c6
                      have HZ := Lib.hid hz
                      clear hz N5 hg6 R5
                      cases z with
                      | true =>
                        clear K6
                        go_wp2_with fail
                        go_roundw
                        case rel =>
                          refine ⟨v + 1, by omega, by go_num, (G7k.out.trans G76.out), Lib.hid (fun v' h => ?_)⟩
                          by_cases e : v' = v
                          · subst e; intro hb; exact hb.1 (by have := HZ.out; simpa using this)
                          · exact hdv.out v' (by omega)
                        case measure => simp [intOf]; omega
                      | false =>
                        obtain ⟨y2, hy2⟩ : ∃ y, calS l ms (s.set u (v : Int)) = y := ⟨_, rfl⟩
                        rw [hy2] at K6
                        have HY2 := Lib.hid hy2
                        clear hy2
                        cases y2 with
                        | true =>
                          go_wp2_with fail
                          refine K6.out.mono ?_
                          rintro e w7 ⟨rfl, hg7⟩
                          have G8 := Lib.hid (HG.out.trans (G5.out.trans (G6.out.trans hg7)))
                          clear hg7
                          go_wp2_with fail
                          go_ret
                          refine ⟨?_, G8.out⟩
                          have hn : ¬ P := by
                            rw [HP.out]
                            rintro ⟨_, _, _, hr⟩
                            exact badS_not HO.out SM.out hlu (by rw [KO.out]; exact v2) ⟨by have := HZ.out; simpa using this, HY2.out⟩ hr
                          rw [decide_eq_false hn]; rfl
                        | false =>
                          go_wp2_with fail
                          refine K6.out.mono ?_
                          rintro e w7 ⟨rfl, hg7⟩
                          have G8 := Lib.hid (G7k.out.trans (G76.out.trans hg7))
                          clear hg7
                          go_wp2_with fail
                          go_roundw
                          case rel =>
                            refine ⟨v + 1, by omega, by go_num, G8.out, Lib.hid (fun v' h => ?_)⟩
                            by_cases e : v' = v
                            · subst e; intro hb; have := HY2.out; rw [hb.2] at this; cases this
                            · exact hdv.out v' (by omega)
                          case measure => simp [intOf]; omega
                    · obtain rfl : v = l[u].choices.length := by omega
                      clear hg7
                      go_wp2_with fail
                      go_roundw
                      case rel =>
                        refine ⟨u + 1, by omega, by go_num, G7.out, Lib.hid (fun u' v' h1 h2 h3 => ?_)⟩
                        by_cases e : u' = u
                        · subst e; rw [KO.out] at h3; exact hdv.out v' (by omega)
                        · exact hdu.out u' v' (by omega) h2 h3
                      case measure => simp [intOf]; omega
                · obtain rfl : u = l.length := by omega
                  clear hg6
                  go_wp2_with fail
                  go_roundw
                  case rel =>
                    refine ⟨i + 1, by omega, by go_num, G5.out.trans G6.out, Lib.hid (fun j hj h u' v' h1 h2 => ?_)⟩
                    by_cases e : j = i
                    · subst e; rw [HSK.out]; exact hdu.out u' v' (by omega) h1 h2
                    · exact hdone.out j hj (by omega) u' v' h1 h2
                  case measure => simp [intOf]; omega
            · obtain rfl : i = cs.length := by omega
              clear hg5
              go_wp2_with fail
              go_ret
              refine ⟨?_, HG.out.trans G5.out⟩
              have hy' : P := by
                rw [HP.out]
                exact ⟨RS.out, by have := HX.out; simpa using this, by have := HY.out; simpa using this, closed_of (fun j hj u v h1 h2 => hdone.out j hj hj u v h1 h2)⟩
              rw [decide_eq_true hy']; rfl
end Go.Proofs.YtenehghpmnajpaaGreatDoor

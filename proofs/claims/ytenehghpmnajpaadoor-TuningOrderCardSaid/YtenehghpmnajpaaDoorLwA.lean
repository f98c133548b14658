/- The walk of TuningLeast. -/
import Derived.Test.YtenehghpmnajpaaDoorLb
import Derived.Test.YtenehghpmnajpaaDoorLc
set_option linter.unusedVariables false
set_option linter.unusedSimpArgs false
namespace Go.Proofs.YtenehghpmnajpaaDoor
open Go.RowKit
open Classical

/-- What Solve returned: an error, and the least setting where there is one. -/
def SolveOut (w : World) (l : List Clk) (ms : List Lmt) (v : Value) (en : Int) : Prop :=
  (en = 0 ∧ ∃ s B c, LeastS l ms s ∧ v = .slice (some ⟨B, 0, none⟩) l.length c ∧ RowS w B 3 (nums s)) ∨ (en = 9 ∧ v = .slice none 0 0 ∧ ∀ s, SetOk l s → meetS l ms s = false)
theorem solve_out {w : World} {l : List Clk} {ms : List Lmt} {e : Ending} {w' : World} (h : GivesSolve w l ms e w') : Gr w w' ∧ ∃ v en, e = .returned (.tuple #[v, .int .i64 en]) ∧ SolveOut w' l ms v en := by
  obtain ⟨hg, ⟨s, B, c, hs, hm, hl, e, hr, _⟩ | ⟨hno, e⟩⟩ := h
  · exact ⟨hg, _, 0, e, .inl ⟨rfl, s, B, c, ⟨hs, hm, hl⟩, rfl, hr⟩⟩
  · exact ⟨hg, _, 9, e, .inr ⟨rfl, rfl, hno⟩⟩
theorem SolveOut.gr {w w' : World} {l : List Clk} {ms : List Lmt} {v : Value} {en : Int} (h : SolveOut w l ms v en) (hg : Gr w w') : SolveOut w' l ms v en := by
  rcases h with ⟨e, s, B, c, h1, h2, h3⟩ | h
  · exact .inl ⟨e, s, B, c, h1, h2, h3.gr hg⟩
  · exact .inr h
theorem zero_set {l : List Clk} (h1 : ∀ c ∈ l, 1 ≤ c.choices.length) : SetOk l (List.replicate l.length 0) ∧ num l (List.replicate l.length 0) = 0 := by
  have hz : ∀ i, sOf (List.replicate l.length 0) i = 0 := fun i => by
    unfold sOf
    rw [List.getD_eq_getElem?_getD, List.getElem?_replicate]; split <;> rfl
  refine ⟨setOk_of (by rw [List.length_replicate]) (fun i hi => ?_), ?_⟩
  · rw [hz, kOf_at hi]
    have := h1 _ (List.getElem_mem hi); omega
  · have : ∀ j, numU (kOf l) (sOf (List.replicate l.length 0)) j = 0 := by
      intro j
      induction j with
      | zero => rfl
      | succ j ih => simp only [numU]; rw [ih, hz]; simp
    exact this _
set_option maxRecDepth 100000 in
set_option maxHeartbeats 4000000 in
theorem least_walk (a : Option Addr) (len cap : Nat) (zs : List Int) (w : World) (h : RowIn w a len cap zs) (hoff : OffV w) :
    Calls Tryd.prog 7 #[.slice a len cap] w (Grows w (.bool true)) := by
  have H := Lib.hid h
  have HO := Lib.hid hoff
  clear h hoff
  go_enter Tryd.func7, Tryd.ntmps7
  go_wp2_with fail
  refine (newTape_any w a len cap zs H.out).mono ?_
  rintro e w1 ⟨b, n, rfl, T, hg, hb, _⟩
  have HT : Hid (Tp w1 b n) := Lib.hid ⟨_, T⟩
  have HB := Lib.hid T.has
  have HG := Lib.hid hg
  have LB := Lib.hid hb
  clear T hg hb
  go_wp2_with fail
  refine (clocks_any w1 b n 8 256 HT.out (by omega) (by omega) (by omega) (by omega)).mono ?_
  rintro e w2 ⟨ts, v, rfl, ho, hr, hck, hge, hle, hpr, hm2⟩
  obtain ⟨g, c, rfl, hnc, hbg, _⟩ := owns_cell ho (by omega)
  have LM := Lib.hid (limits_any w2 b n w1.heap.size 3 c (some ⟨g, 0, none⟩) ts (hm2.tp HT.out) HB.out ho hr hck hge (by omega) (by omega))
  have O2 := Lib.hid ho
  have R2 := Lib.hid hr
  have CK := Lib.hid hck
  have G2 : Hid (Gr w w2) := Lib.hid (Mv.gr_low HG.out LB.out hm2)
  have HCL : Hid ((clks ts).length = ts.length) := Lib.hid (clks_len ts)
  have HC1 := Lib.hid (allOk_cho (cchk_zero hck).2.1)
  have zr : Hid (b < w2.heap.size) := Lib.hid (hm2.tp HT.out).has
  clear ho hr hck hpr hm2 hbg hnc
  go_wp2_with fail
  refine LM.out.mono ?_
  rintro e w3 ⟨ms, vm, rfl, hom, hml, hlm, hm3⟩
  have LS : Hid (LsOk (clks ts) ms) := Lib.hid ⟨by omega, hlm⟩
  obtain ⟨am, cm, rfl, sm3⟩ := lmts_of_owns hom (by rw [HCL.out]; omega) LS.out
  have G3 : Hid (Gr w w3) := Lib.hid (Mv.gr_low G2.out LB.out hm3)
  have ho3 := hm3.owns O2.out HB.out
  have hr3 : ChRows w1.heap.size w3 ts := fun t ht => (R2.out t ht).mv hm3 HB.out
  obtain ⟨_, _, eq3, _, sl3⟩ := clks_at ho3 hr3 (by omega)
  cases eq3
  have E3 : Hid (Env w3 (clks ts) ms (some ⟨g, 0, none⟩) am) := Lib.hid ⟨sl3, sm3, HO.out.gr G3.out, CK.out, LS.out⟩
  clear sl3 sm3 ho3 hr3 hom hml hlm hm3 LM O2 R2 HT HB G2
  have h1l : Hid (1 ≤ (clks ts).length) := Lib.hid (by rw [HCL.out]; exact hge)
  have SV := Lib.hid (fun W (hW : Gr w3 W) => (solve_any (clks ts) ms (some ⟨g, 0, none⟩) am c cm W (E3.out.gr hW) h1l.out).mono fun e w' h => solve_out h)
  have CV := Lib.hid (fun W (hW : Gr w3 W) => count_any (clks ts) ms (some ⟨g, 0, none⟩) am c cm W (E3.out.gr hW) h1l.out)
  have MV := Lib.hid (fun W (hW : Gr w3 W) s aS cs (hs : SetOk (clks ts) s) (hr : SlOf 1 RI W aS s) => meets_any (clks ts) ms s (some ⟨g, 0, none⟩) aS am c cs cm W (clks_gr E3.out.clks hW) hr (lmts_gr E3.out.lmts hW) CK.out hs LS.out)
  have NX := Lib.hid (fun W (hW : Gr w3 W) s aS cs (hs : SetOk (clks ts) s) (hr : SlOf 1 RI W aS s) => next_any (clks ts) s (some ⟨g, 0, none⟩) aS c cs W (clks_gr E3.out.clks hW) hr CK.out hs h1l.out)
  have MV' : Hid (∀ W, Gr w3 W → ∀ s aS cs, SetOk (clks ts) s → SlOf 1 RI W aS s → Calls Tryd.prog 32 #[.slice (some ⟨g, 0, none⟩) ts.length c, .slice aS ts.length cs, .slice am ms.length cm] W (Grows W (.bool (meetS (clks ts) ms s)))) := Lib.hid (fun W hW s aS cs hs hr => by
    have := MV.out W hW s aS cs hs hr
    rwa [hs.1, HCL.out] at this)
  have NX' : Hid (∀ W, Gr w3 W → ∀ s aS cs, SetOk (clks ts) s → SlOf 1 RI W aS s → Calls Tryd.prog 33 #[.slice (some ⟨g, 0, none⟩) ts.length c, .slice aS ts.length cs] W (GivesNext W (clks ts) s)) := Lib.hid (fun W hW s aS cs hs hr => by
    have := NX.out W hW s aS cs hs hr
    rwa [hs.1, HCL.out] at this)
  rw [HCL.out] at SV CV
  clear MV NX
  go_wp2_with fail
  refine (SV.out w3 (Gr.refl _)).mono ?_
  rintro e w4 ⟨hg4, av, en, rfl, hso⟩
  have SO := Lib.hid hso
  have G4 := Lib.hid hg4
  clear hso hg4 SV
  go_wp2_with fail
  refine (CV.out w4 G4.out).mono ?_
  rintro e w5 ⟨rfl, hg5⟩
  have G5 := Lib.hid (G4.out.trans hg5)
  have SO5 := Lib.hid (SO.out.gr hg5)
  have hmk := run_make_row' (P := Tryd.prog) 22 3 (.int .i64 0) 8 Tryd.underlying22 infoInt rfl .i64 .i64 ts.length (by omega) (by omega)
  clear hg5 CV SO
  obtain ⟨N, hN⟩ : ∃ N : Nat, cntS (clks ts) ms = N := ⟨_, rfl⟩
  have HN := Lib.hid hN
  rw [hN]
  clear hN
  go_wp2_with fail
  obtain ⟨X0, hX0⟩ : ∃ X0 : Nat, Hid (w5.heap.size = X0) := ⟨_, Lib.hid rfl⟩
  obtain ⟨W6, hW6⟩ : ∃ W6 : World, Hid (W6 = w5.alloc (.cells (madeCells #[.int .i64 0] ts.length) 3)) := ⟨_, Lib.hid rfl⟩
  rw [← hW6.out, hX0.out]
  have RX : Hid (RowS W6 X0 3 (nums (List.replicate ts.length 0))) := Lib.hid (by
    rw [hW6.out]
    have := row_new' w5 (madeCells #[.int .i64 0] ts.length) 3 X0 hX0.out.symm
    rw [made_zero] at this
    have e : nums (List.replicate ts.length 0) = List.replicate ts.length (.int .i64 0) := by simp [nums]
    rw [e]; exact this.s)
  have g6 : Hid (Gr w5 W6) := Lib.hid (by rw [hW6.out]; exact (Gr.refl _).alloc _)
  have Z : Hid (SetOk (clks ts) (List.replicate ts.length 0) ∧ num (clks ts) (List.replicate ts.length 0) = 0) := Lib.hid (by
    have := zero_set HC1.out
    rwa [HCL.out] at this)
  have PC : Hid (prodC (clks ts) ≤ 4096 ∧ 1 ≤ prodC (clks ts)) := Lib.hid ⟨(cchk_zero CK.out).2.2.1, prodC_pos HC1.out⟩
  clear hW6 hX0 hmk
  go_loopg [10, 11, 12] (prodC (clks ts)) (fun gg s10 s11 s12 wx => ∃ (k : Nat), s12 = .int .i64 (cntK (clks ts) (meetS (clks ts) ms) k : Int) ∧ Gr w5 wx ∧ k ≤ prodC (clks ts) ∧
    ((s11 = .bool true ∧ ∃ (t : List Int) (B cx : Nat), s10 = .slice (some ⟨B, 0, none⟩) ts.length cx ∧ RowS wx B 3 (nums t) ∧ SetOk (clks ts) t ∧ num (clks ts) t = (k : Int) ∧ k + gg = prodC (clks ts)) ∨ (s11 = .bool false ∧ gg = 0 ∧ k = prodC (clks ts))))
  case atStart => exact ⟨0, by simp [cntK], g6.out, Nat.zero_le _, .inl ⟨rfl, _, X0, ts.length, rfl, RX.out, Z.out.1, Z.out.2, by omega⟩⟩
  case round =>
    clear RX g6 Z
    obtain ⟨k, rfl, hg6, hk, hcase⟩ := hrel
    obtain ⟨cn, hcn⟩ : ∃ cn, cntK (clks ts) (meetS (clks ts) ms) k = cn := ⟨_, rfl⟩
    have CN := Lib.hid hcn
    have cn1 : cn ≤ 4096 := by have := cntK_le (clks ts) (meetS (clks ts) ms) k; have := PC.out; omega
    rw [hcn]
    have G6 := Lib.hid hg6
    clear hg6 hcn
    rcases hcase with ⟨rfl, t, B, cx, rfl, hrx, hst, hnum, hgk⟩ | ⟨rfl, rfl, rfl⟩
    · have RX := Lib.hid hrx
      have ST := Lib.hid hst
      have NM := Lib.hid hnum
      have W1 : Hid (∀ j (h : j < t.length), Wide t[j]) := Lib.hid (setOk_wide CK.out hst)
      have MT := Lib.hid (MV'.out wr (G5.out.trans G6.out) t (some ⟨B, 0, none⟩) cx hst (hrx.slI W1.out))
      have NT := Lib.hid (fun W (hW : Gr wr W) => NX'.out W ((G5.out.trans G6.out).trans hW) t (some ⟨B, 0, none⟩) cx ST.out ((RX.out.gr hW).slI W1.out))
      have CK1 := Lib.hid (cntK_next (p := meetS (clks ts) ms) hst hnum)
      have HK := Lib.hid hgk
      clear hrx hst hnum
      go_wp2_with fail
      refine MT.out.mono ?_
      rintro e w7 ⟨rfl, hg7⟩
      have G7 := Lib.hid hg7
      clear hg7 MT
      cases hm : meetS (clks ts) ms t with
      | false =>
        have CK2 : Hid (cntK (clks ts) (meetS (clks ts) ms) (k + 1) = cn) := Lib.hid (by rw [CK1.out, hm, CN.out]; simp)
        clear hm CK1
        go_wp2_with fail
        refine (NT.out w7 G7.out).mono ?_
        rintro e w8 ⟨hg8, ⟨t', B', c', rfl, hr', _, hs', hn'⟩ | ⟨rfl, hl'⟩⟩
        · have NB := Lib.hid (num_bound hs')
          have HR' := Lib.hid hr'
          have HS' := Lib.hid hs'
          have HN' := Lib.hid hn'
          have G8 := Lib.hid ((G6.out.trans G7.out).trans hg8)
          clear hr' hs' hn' hg8
          go_wp2_with fail
          go_roundg (gk - 1)
          case measure => have := NB.out; have := HN'.out; have := NM.out; omega
          case rel => exact ⟨k + 1, by rw [CK2.out], G8.out, by have := NB.out; have := HN'.out; have := NM.out; omega, .inl ⟨rfl, t', B', c', by rw [HCL.out], HR'.out, HS'.out, by have := HN'.out; have := NM.out; omega, by have := NB.out; have := HN'.out; have := NM.out; omega⟩⟩
        · have HL' := Lib.hid hl'
          have G8 := Lib.hid ((G6.out.trans G7.out).trans hg8)
          clear hl' hg8
          go_wp2_with fail
          go_roundg 0
          case measure => have := HL'.out; have := NM.out; omega
          case rel => exact ⟨k + 1, by rw [CK2.out], G8.out, by have := HL'.out; have := NM.out; omega, .inr ⟨rfl, rfl, by have := HL'.out; have := NM.out; omega⟩⟩
      | true =>
        have CK2 : Hid (cntK (clks ts) (meetS (clks ts) ms) (k + 1) = cn + 1) := Lib.hid (by rw [CK1.out, hm, CN.out]; simp)
        rcases SO5.out with ⟨rfl, s, B2, c2, hls, rfl, hrs⟩ | ⟨_, _, hno⟩
        · have RS7 := Lib.hid (hrs.gr (G6.out.trans G7.out))
          have FST : Hid (cn = 0 → s = t) := Lib.hid (fun h => hls.first ST.out NM.out (by rw [CN.out]; exact h) hm)
          have SS := Lib.hid hls.1
          clear hm CK1 hls hrs
          by_cases h0 : cn = 0
          · have est := FST.out h0
            subst est
            subst h0
            have IN : Hid (Calls Tryd.prog 20 #[.slice (some ⟨B2, 0, none⟩) (clks ts).length c2, .slice (some ⟨B, 0, none⟩) ts.length cx] w7 (Grows w7 (.bool true))) := Lib.hid (by
              have := ints_any s s (some ⟨B2, 0, none⟩) (some ⟨B, 0, none⟩) c2 cx w7 (RS7.out.slI W1.out) ((RX.out.gr G7.out).slI W1.out) (by rw [ST.out.1, HCL.out]; unfold Fit; omega) (by rw [ST.out.1, HCL.out]; unfold Fit; omega)
              rw [ST.out.1, HCL.out] at this
              rw [HCL.out]
              simpa using this)
            clear FST
            go_wp2_with fail
            refine IN.out.mono ?_
            rintro e w7' ⟨rfl, hg7'⟩
            have G7' := Lib.hid (G7.out.trans hg7')
            clear hg7' IN
            go_wp2_with fail
            refine (NT.out w7' G7'.out).mono ?_
            rintro e w8 ⟨hg8, ⟨t', B', c', rfl, hr', _, hs', hn'⟩ | ⟨rfl, hl'⟩⟩
            · have NB := Lib.hid (num_bound hs')
              have HR' := Lib.hid hr'
              have HS' := Lib.hid hs'
              have HN' := Lib.hid hn'
              have G8 := Lib.hid ((G6.out.trans G7'.out).trans hg8)
              clear hr' hs' hn' hg8
              go_wp2_with fail
              go_roundg (gk - 1)
              case measure => have := NB.out; have := HN'.out; have := NM.out; omega
              case rel => exact ⟨k + 1, by rw [CK2.out]; rfl, G8.out, by have := NB.out; have := HN'.out; have := NM.out; omega, .inl ⟨rfl, t', B', c', by rw [HCL.out], HR'.out, HS'.out, by have := HN'.out; have := NM.out; omega, by have := NB.out; have := HN'.out; have := NM.out; omega⟩⟩
            · have HL' := Lib.hid hl'
              have G8 := Lib.hid ((G6.out.trans G7'.out).trans hg8)
              clear hl' hg8
              go_wp2_with fail
              go_roundg 0
              case measure => have := HL'.out; have := NM.out; omega
              case rel => exact ⟨k + 1, by rw [CK2.out]; rfl, G8.out, by have := HL'.out; have := NM.out; omega, .inr ⟨rfl, rfl, by have := HL'.out; have := NM.out; omega⟩⟩
          · have b0 : (((cn : Nat) : Int) == 0) = false := by rw [beq_eq_false_iff_ne]; omega
            have b1 : (cn == 0) = false := by rw [beq_eq_false_iff_ne]; omega
            have b2 : decide (cn = 0) = false := decide_eq_false h0
            clear h0 FST
            go_wp2_with fail
            refine (NT.out w7 G7.out).mono ?_
            rintro e w8 ⟨hg8, ⟨t', B', c', rfl, hr', _, hs', hn'⟩ | ⟨rfl, hl'⟩⟩
            · have NB := Lib.hid (num_bound hs')
              have HR' := Lib.hid hr'
              have HS' := Lib.hid hs'
              have HN' := Lib.hid hn'
              have G8 := Lib.hid ((G6.out.trans G7.out).trans hg8)
              clear hr' hs' hn' hg8
              go_wp2_with fail
              go_roundg (gk - 1)
              case measure => have := NB.out; have := HN'.out; have := NM.out; omega
              case rel => exact ⟨k + 1, by rw [CK2.out]; go_num, G8.out, by have := NB.out; have := HN'.out; have := NM.out; omega, .inl ⟨rfl, t', B', c', by rw [HCL.out], HR'.out, HS'.out, by have := HN'.out; have := NM.out; omega, by have := NB.out; have := HN'.out; have := NM.out; omega⟩⟩
            · have HL' := Lib.hid hl'
              have G8 := Lib.hid ((G6.out.trans G7.out).trans hg8)
              clear hl' hg8
              go_wp2_with fail
              go_roundg 0
              case measure => have := HL'.out; have := NM.out; omega
              case rel => exact ⟨k + 1, by rw [CK2.out]; go_num, G8.out, by have := HL'.out; have := NM.out; omega, .inr ⟨rfl, rfl, by have := HL'.out; have := NM.out; omega⟩⟩
        · have := hno t ST.out
          rw [hm] at this; cases this
    · have eN : cn = N := by rw [← CN.out, ← HN.out]; rfl
      subst eN
      have AW := Lib.hid (awake17_any wr (HO.out.gr (G3.out.trans (G5.out.trans G6.out))))
      have GF := Lib.hid (G3.out.trans (G5.out.trans G6.out))
      rcases SO5.out with ⟨rfl, s, B2, c2, hls, rfl, hrs⟩ | ⟨rfl, rfl, hno⟩
      · have c0 : cn ≠ 0 := by
          rw [← CN.out]
          exact cntK_some hls.1 hls.2.1 (by have := num_bound hls.1; omega)
        have b0 : (((cn : Nat) : Int) == 0) = false := by rw [beq_eq_false_iff_ne]; omega
        have b1 : (cn == 0) = false := by rw [beq_eq_false_iff_ne]; omega
        have b2 : decide (cn = 0) = false := decide_eq_false c0
        clear c0 hls hrs
        go_wp2_with fail
        refine AW.out.mono ?_
        rintro e w9 ⟨rfl, hg9⟩
        have G9 := Lib.hid (GF.out.trans hg9)
        clear hg9
        go_wp2_with fail
        go_ret
        exact ⟨rfl, G9.out⟩
      · have c0 : cn = 0 := by
          rw [← CN.out]
          exact cntK_none hno HC1.out (Nat.le_refl _)
        subst c0
        clear hno
        go_wp2_with fail
        refine AW.out.mono ?_
        rintro e w9 ⟨rfl, hg9⟩
        have G9 := Lib.hid (GF.out.trans hg9)
        clear hg9
        go_wp2_with fail
        go_ret
        exact ⟨rfl, G9.out⟩
end Go.Proofs.YtenehghpmnajpaaDoor

/- Contract of tuning.visit with Least's function, which is told the number of the setting (out of what wip/tools/visit.py prints). -/
import Derived.Test.YtenehghpmnajpaaDoorKw
import Derived.Deep.LoopGhost
set_option linter.unusedVariables false
set_option linter.unusedSimpArgs false
namespace Go.Proofs.YtenehghpmnajpaaDoor
open Go.RowKit
open Classical

/-- What the function does at a setting. -/
def SeeM {σ : Type} (I : Lie σ) (step : σ → List Int → σ) (more : σ → Bool) (l : List Clk) (ms : List Lmt) (c1 c2 : Nat) (w0 : World) (st0 : σ) : Prop :=
  ∀ (s : List Int) (st : σ) (w : World) (L : List Nat) (B c : Nat) (k : Nat), num l s = (k : Int) → st = stN step st0 l k → SetOk l s → Gr w0 w → I st w L → (∀ b ∈ L, Has w b) → Row w B 3 (nums s) → B ∈ L →
    Calls Tryd.prog 86 #[.slice (some ⟨B, 0, none⟩) l.length c, vU64 (bitsS l ms s), .pointer (some ⟨c1, 0, none⟩), .pointer (some ⟨c2, 0, none⟩)] w fun e w' => e = .returned (.bool (more (step st s))) ∧ I (step st s) w' L ∧ Gr w0 w' ∧ (∀ b ∈ L, w'.heap[b]? = w.heap[b]?) ∧ w.heap.size ≤ w'.heap.size
set_option maxRecDepth 100000 in
set_option maxHeartbeats 2000000 in
theorem visitM_any {σ : Type} (I : Lie σ) (step : σ → List Int → σ) (more : σ → Bool) (l : List Clk) (ms : List Lmt) (al am : Option Addr) (cl cm c1 c2 : Nat) (L0 : List Nat) (w0 w : World) (st : σ)
    (henv : Env w0 l ms al am) (hg0 : Gr w0 w) (h1 : 1 ≤ l.length) (hL : ∀ b ∈ L0, Has w b) (hI : LieOk I)
    (hst : ∀ w1 L, Gr w w1 → (∀ b ∈ L, b ∈ L0 ∨ w.heap.size ≤ b) → I st w1 L) (hv : SeeM I step more l ms c1 c2 w0 st) :
    Calls Tryd.prog 67 #[.slice al l.length cl, .slice am ms.length cm, .func (.func 86) #[] #[.pointer (some ⟨c1, 0, none⟩), .pointer (some ⟨c2, 0, none⟩)]] w fun e w' =>
      e = .returned (.tuple #[]) ∧ ∃ k : Nat, 1 ≤ k ∧ k ≤ prodC l ∧ I (stN step st l k) w' L0 ∧ (k = prodC l ∨ more (stN step st l k) = false) ∧ (∀ j, 1 ≤ j → j < k → more (stN step st l j) = true) ∧ Gr w0 w' ∧ (∀ b ∈ L0, w'.heap[b]? = w.heap[b]?) ∧ w.heap.size ≤ w'.heap.size := by
  obtain ⟨nb, okC, prC, _⟩ := cchk_zero henv.chk
  have hl := small_len nb
  have hml := henv.lims.1
  have NB := Lib.hid nb
  have HE := Lib.hid henv
  have HG0 := Lib.hid hg0
  have HL := Lib.hid hL
  have HI := Lib.hid hI
  have HS := Lib.hid hst
  have HV := Lib.hid hv
  have HC1 := Lib.hid (allOk_cho okC)
  have AL := all_any l ms al am cl cm w (clks_gr henv.clks hg0) (lmts_gr henv.lmts hg0) hl hml
  have AL' := Lib.hid AL
  have BL : Hid ((allB l ms).length ≤ 48) := Lib.hid (by have := allB_len l ms; omega)
  have BO := Lib.hid (allB_ok (l := l) (ms := ms) henv.lims)
  have hmk := run_make_row' (P := Tryd.prog) 22 3 (.int .i64 0) 8 Tryd.underlying22 infoInt rfl .i64 .i64 l.length (by omega) (by omega)
  have Z : Hid (SetOk l (List.replicate l.length 0) ∧ num l (List.replicate l.length 0) = 0) := Lib.hid (by
    have hz : ∀ i, sOf (List.replicate l.length 0) i = 0 := fun i => by
      unfold sOf
      rw [List.getD_eq_getElem?_getD, List.getElem?_replicate]; split <;> rfl
    refine ⟨setOk_of (by rw [List.length_replicate]) (fun i hi => ?_), ?_⟩
    · rw [hz, kOf_at hi]
      have := HC1.out _ (List.getElem_mem hi); omega
    · have : ∀ j, numU (kOf l) (sOf (List.replicate l.length 0)) j = 0 := by
        intro j
        induction j with
        | zero => rfl
        | succ j ih => simp only [numU]; rw [ih, hz]; simp
      exact this _)
  have PC : Hid (1 ≤ prodC l) := Lib.hid (prodC_pos HC1.out)
  clear nb henv hg0 hL hI hst hv AL okC
  go_enter Tryd.func67, Tryd.ntmps67
  go_wp2_with fail
  refine AL'.out.mono ?_
  rintro e w1 ⟨v, rfl, ho, hg1⟩
  obtain ⟨ab, cb, rfl, hbs⟩ := bnds_of_owns ho
  obtain ⟨GL, hGL⟩ : ∃ GL : List Nat, Hid ((∀ x, 0 < (allB l ms).length → ab = some x → x.block ∈ GL) ∧ (∀ b ∈ GL, Has w1 b ∧ w.heap.size ≤ b)) := by
    by_cases h0 : 0 < (allB l ms).length
    · obtain ⟨g, cap, e, _, hb, hc⟩ := owns_cell ho h0
      cases e
      obtain ⟨b', o', e', q, _⟩ := hbs 0 h0
      cases e'
      exact ⟨[g], Lib.hid ⟨fun x _ e => by cases e; simp, fun b hb' => by
        have : b = g := by simpa using hb'
        subst this
        exact ⟨has_of_cell q, hb⟩⟩⟩
    · exact ⟨[], Lib.hid ⟨fun x h _ => absurd h h0, fun b hb => by cases hb⟩⟩
  have BS := Lib.hid hbs
  have G1 := Lib.hid hg1
  clear ho hbs hg1 AL'
  go_wp2_with fail
  obtain ⟨W2, hW2⟩ : ∃ W2 : World, Hid (W2 = w1.alloc (.cells (madeCells #[.int .i64 0] l.length) 3)) := ⟨_, Lib.hid rfl⟩
  rw [← hW2.out]
  obtain ⟨SB, hSB⟩ : ∃ SB : Nat, Hid (w1.heap.size = SB) := ⟨_, Lib.hid rfl⟩
  rw [hSB.out]
  have g2 : Hid (Gr w1 W2) := Lib.hid (by rw [hW2.out]; exact (Gr.refl _).alloc _)
  have sb : Hid (w.heap.size ≤ SB) := Lib.hid (by have := G1.out.size; have := hSB.out; omega)
  have s0 : Hid (w0.heap.size ≤ SB) := Lib.hid (Nat.le_trans HG0.out.size sb.out)
  have V2 : Hid (VI I w0 w (allB l ms) ab SB GL L0 st W2 (List.replicate l.length 0)) := Lib.hid
    { row := by
        rw [hW2.out, ← hSB.out]
        have := Row.new w1 (madeCells #[.int .i64 0] l.length) 3
        rw [made_zero] at this
        have e : nums (List.replicate l.length 0) = List.replicate l.length (.int .i64 0) := by simp [nums]
        rw [e]; exact this
      lst := BS.out.gr RBnd.mono g2.out
      lblk := hGL.out.1
      has := fun b hb => Nat.lt_of_lt_of_le (hGL.out.2 b hb).1 g2.out.size
      ne := fun q => by have := (hGL.out.2 _ q).1; have := hSB.out; unfold Has at *; omega
      st := HS.out _ _ (G1.out.trans g2.out) (fun b hb => by
        rcases List.mem_cons.1 hb with e | hb
        · subst e; exact .inr sb.out
        · rcases List.mem_append.1 hb with hb | hb
          · exact .inr (hGL.out.2 b hb).2
          · exact .inl hb)
      gr := HG0.out.trans (G1.out.trans g2.out)
      keep := fun b hb => (G1.out.trans g2.out).below.block b (HL.out b hb)
      size := (G1.out.trans g2.out).size }
  clear hW2 BS G1 g2 hGL hSB hmk HS
  go_loopg [10] (prodC l) (fun gg s10 wx => ∃ (u : List Int) (k : Nat), SetOk l u ∧ num l u = (k : Int) ∧ gg + k = prodC l ∧ VI I w0 w (allB l ms) ab SB GL L0 (stN step st l k) wx u ∧ ∀ j, 1 ≤ j → j ≤ k → more (stN step st l j) = true)
  case atStart => exact ⟨_, 0, Z.out.1, Z.out.2, by simp, V2.out, fun j h1 h2 => by omega⟩
  case round =>
    clear V2 Z
    obtain ⟨u, k, hu, hnum, hgk, hvi, hmore⟩ := hrel
    have HU := Lib.hid hu
    have HN := Lib.hid hnum
    have GK := Lib.hid hgk
    have V3 := Lib.hid hvi
    have MO := Lib.hid hmore
    have UL := Lib.hid hu.1
    have RT := pRates_any l u al (some ⟨SB, 0, none⟩) cl l.length wr (clks_gr HE.out.clks hvi.gr) (hvi.row.s.slI (setOk_wide HE.out.chk hu)) HE.out.chk hu (HE.out.off.gr hvi.gr)
    rw [hu.1] at RT
    have RT' := Lib.hid RT
    clear hu hnum hgk hvi hmore RT
    go_wp2_with fail
    refine RT'.out.mono ?_
    rintro e w3 ⟨RB, rfl, hrr, hrb, hg3⟩
    have V4 := Lib.hid (V3.out.grow HI.out HL.out hg3)
    have RR := Lib.hid hrr
    have RL : Hid ((rts l u).length = l.length) := Lib.hid (by rw [rts_len _ _ UL.out.symm])
    have RG := Lib.hid (rts_good HE.out.chk HU.out)
    clear hrr hrb hg3 RT' V3
    obtain ⟨R, eR⟩ : ∃ R, Hid (rts l u = R) := ⟨_, Lib.hid rfl⟩
    rw [eR.out] at RR RL RG
    obtain ⟨acc0, hacc0⟩ : ∃ acc0 : Int, Hid (acc0 = ((bitAcc (brk l ms u) 0).toNat : Int)) := ⟨_, Lib.hid rfl⟩
    go_wp2_with fail
    obtain ⟨wo, hwo⟩ : ∃ wo : World, wo = w3 := ⟨_, rfl⟩
    rw [← hwo] at V4 RR ⊢
    clear hwo
    go_loopw [10, 28] (fun s10 s28 wr => ∃ i : Nat, i ≤ (allB l ms).length ∧ s28 = .int .i64 (i : Int) ∧ s10 = vU64 (bitAcc (brk l ms u) i) ∧ Gr wo wr) (fun _ s28 _ => (allB l ms).length - (intOf s28).toNat)
    case atStart => exact ⟨0, Nat.zero_le _, rfl, rfl, Gr.refl _⟩
    case round =>
      obtain ⟨i, hi, rfl, rfl, hg⟩ := hrel
      have G5 := Lib.hid hg
      by_cases hlt : i < (allB l ms).length
      · have i2 : (i : Int) < (allB l ms).length := by omega
        obtain ⟨b, o, eab, d0, d1, d2, d3, d4⟩ := (V4.out.lst.gr RBnd.mono hg) i hlt
        subst eab
        obtain ⟨q0, q1⟩ := BO.out _ (List.getElem_mem hlt)
        obtain ⟨x, hx⟩ : ∃ x, (allB l ms)[i] = x := ⟨_, rfl⟩
        have BK := brk_at (s := u) hlt
        rw [eR.out] at BK
        rw [hx] at d0 d1 d2 d3 d4 q0 q1 BK
        obtain ⟨q, hq⟩ : ∃ q : Nat, x.clock = q := ⟨_, (Int.toNat_of_nonneg q0).symm⟩
        have hqR : q < R.length := by have := RL.out; omega
        have eq : x.clock.toNat = q := by omega
        rw [eq] at BK
        have e := rtAt_eq hqR
        have hgd : GoodR (rtAt R q) := by rw [e]; exact RG.out q hqR
        have r0 := (RR.out.gr hg).cell (q * 2) (by rw [encP_len, List.length_map]; omega)
        have r1 := (RR.out.gr hg).cell (q * 2 + 1) (by rw [encP_len, List.length_map]; omega)
        have hat := encP_at (R.map prR) q (by rw [List.length_map]; exact hqR)
        rw [hat.1] at r0
        rw [hat.2] at r1
        simp only [List.getElem_map, prR] at r0 r1
        rw [← e] at r0 r1
        obtain ⟨r, hr⟩ : ∃ r, rtAt R q = r := ⟨_, rfl⟩
        rw [hr] at r0 r1 hgd BK
        have BR := Lib.hid (fun W => broken_any x r W hgd)
        have hh := has_of_cell d0
        have h0 := has_of_cell r0
        have q2 : (q : Int) < l.length := by omega
        rw [hq] at d1 BR
        have HB := Lib.hid BK
        have accS : Hid (bitAcc (brk l ms u) (i + 1) = if brk l ms u i = true then bitAcc (brk l ms u) i ||| BitVec.twoPow 64 i else bitAcc (brk l ms u) i) := Lib.hid rfl
        have i64 : i < 64 := by have := BL.out; omega
        obtain ⟨A, hA⟩ : ∃ A, bitAcc (brk l ms u) i = A := ⟨_, rfl⟩
        rw [hA] at accS ⊢
        clear hg hat e hr hgd BK hq eq q0 q1 hx hA
        cases hb : brokB x r with
        | false =>
          rw [hb] at BR HB
          have S1 : Hid (bitAcc (brk l ms u) (i + 1) = A) := Lib.hid (by rw [accS.out, HB.out]; simp)
          clear hb accS
          go_wp2_with fail
          refine wp_region_grows (by kernel_rfl) (by kernel_rfl) ?_
          repeat (go_big_quiet_step (first | (go_at_call 80; exact calls_grows (BR.out _))))
          refine wpQuiet_nil ?_
          rintro _ ⟨⟨O, d⟩, rfl⟩
          go_wp2_with fail
          go_roundw
          case rel => exact ⟨i + 1, by omega, by go_num, by rw [S1.out], (G5.out.alloc _).xt _ _⟩
          case measure => simp [intOf]; omega
        | true =>
          rw [hb] at BR HB
          have S1 : Hid (bitAcc (brk l ms u) (i + 1) = A ||| BitVec.twoPow 64 i) := Lib.hid (by rw [accS.out, HB.out]; simp)
          have OB := Lib.hid (or_bits A i i64)
          clear hb accS
          unfold vU64
          go_wp2_with fail
          refine wp_region_grows (by kernel_rfl) (by kernel_rfl) ?_
          repeat (go_big_quiet_step (first | (go_at_call 80; exact calls_grows (BR.out _))))
          refine wpQuiet_nil ?_
          rintro _ ⟨⟨O, d⟩, rfl⟩
          go_wp2_with fail
          go_roundw
          case rel => exact ⟨i + 1, by omega, by go_num, by rw [S1.out]; exact OB.out, (G5.out.alloc _).xt _ _⟩
          case measure => simp [intOf]; omega
      · have hi' : i = (allB l ms).length := by omega
        subst hi'
        have V6' := V4.out.grow HI.out HL.out hg
        have V6 := Lib.hid V6'
        have CV := HV.out u (stN step st l k) wr _ SB l.length k HN.out rfl HU.out V6'.gr V6'.st (V6'.hasL HL.out) V6'.row (by simp)
        have CV' := Lib.hid CV
        have ES : Hid (stN step st l (k + 1) = step (stN step st l k) u) := Lib.hid (by rw [stN_succ, setN_eq HU.out HN.out])
        have BB : Hid (bitAcc (brk l ms u) (allB l ms).length = bitsS l ms u) := Lib.hid rfl
        rw [BB.out]
        rw [← ES.out] at CV'
        clear hg V6' CV V4 RR G5 hacc0
        obtain ⟨X, hX⟩ : ∃ X, vU64 (bitsS l ms u) = X := ⟨_, rfl⟩
        rw [hX] at CV' ⊢
        clear hX
        go_wp2_with fail
        refine CV'.out.mono ?_
        rintro e w7 ⟨rfl, hs1, hs2, hs3, hs4⟩
        have V7 := Lib.hid (V6.out.call hs1 hs2 hs3 hs4)
        clear hs1 hs2 hs3 hs4 V6 CV'
        cases hm : more (stN step st l (k + 1)) with
        | false =>
          have HM := Lib.hid hm
          clear hm
          go_wp2_with fail
          refine bodyPost_ret (results_none rfl _ _ _) rfl ?_
          refine ⟨rfl, ?_⟩
          exact ⟨k + 1, by omega, by have := (num_bound HU.out).2; have := HN.out; omega, HI.out.sub _ _ _ _ V7.out.st (fun b hb => by simp [hb]), .inr HM.out, fun j h1 h2 => MO.out j h1 (by omega), V7.out.gr, V7.out.keep, V7.out.size⟩
        | true =>
          have HM := Lib.hid hm
          clear hm
          go_wp2_with fail
          have MO2 : Hid (∀ j, 1 ≤ j → j ≤ k + 1 → more (stN step st l j) = true) := Lib.hid (fun j h1 h2 => by
            by_cases e : j = k + 1
            · subst e; exact HM.out
            · exact MO.out j h1 (by omega))
          have wq : IntKind.i64.wrap ((l.length : Int) - 1) = (l.length : Int) - 1 := by rw [IntKind.wrap_i64]; omega
          obtain ⟨wo, hwo⟩ : ∃ wo : World, wo = w7 := ⟨_, rfl⟩
          rw [← hwo] at V7 ⊢
          clear hwo
          go_loopw [13] (fun s13 wr => ∃ j : Nat, j ≤ l.length ∧ s13 = .int .i64 ((j : Int) - 1) ∧ AllLast l u j ∧ Gr wo wr) (fun s13 _ => (intOf s13 + 1).toNat)
          case atStart => exact ⟨l.length, Nat.le_refl _, rfl, fun i h1 h2 => by omega, Gr.refl _⟩
          case round =>
            obtain ⟨j, hj, rfl, hla, hg⟩ := hrel
            have LA := Lib.hid hla
            have G8 := Lib.hid hg
            have V8 := Lib.hid (V7.out.grow HI.out HL.out hg)
            clear hla hg
            cases j with
            | zero =>
              have e0 : (((0 : Nat) : Int) - 1) = -1 := by omega
              rw [e0]
              go_wp2_with fail
              go_quiet (fail)
              go_wp2_with fail
              refine bodyPost_ret (results_none rfl _ _ _) rfl ?_
              refine ⟨rfl, ?_⟩
              have nl := num_last LA.out
              exact ⟨k + 1, by omega, by have := HN.out; omega, HI.out.sub _ _ _ _ (V8.out.grow HI.out HL.out ((Gr.refl _).drewN _)).st (fun b hb => by simp [hb]), .inl (by have := HN.out; omega), fun j h1 h2 => MO.out j h1 (by omega), V8.out.gr.drewN _, V8.out.keep, V8.out.size⟩
            | succ j =>
              rw [show (((j + 1 : Nat) : Int) - 1) = (j : Int) by omega]
              have hjl : j < l.length := by omega
              have hju : j < u.length := by rw [UL.out]; exact hjl
              obtain ⟨k0, k1⟩ := HU.out.2 j hjl hju
              obtain ⟨fp, fc⟩ := small_at NB.out hjl
              obtain ⟨b, o, eal, ⟨d0, _⟩, ⟨ap, cp, d1, _⟩, ⟨ac, cc, d2, _, d2f, _⟩, ⟨d3, _⟩, ⟨d4, _⟩⟩ := clks_gr HE.out.clks V8.out.gr j hjl
              subst eal
              have e0 := V8.out.row.iat j hju
              have rh := V8.out.row.has
              have hh := has_of_cell d0
              have j2 : (j : Int) < l.length := by omega
              have EK : Hid (kOf l j = (l[j].choices.length : Int)) := Lib.hid (kOf_at hjl)
              have ES' : Hid (sOf u j = u[j]) := Lib.hid (sOf_at hju)
              have ww : IntKind.i64.wrap ((l[j].choices.length : Int) - 1) = (l[j].choices.length : Int) - 1 := by rw [IntKind.wrap_i64]; omega
              unfold Fit at d2f
              by_cases hlast : u[j] = (l[j].choices.length : Int) - 1
              · have hb : (u[j] == (l[j].choices.length : Int) - 1) = true := by simp [hlast]
                have LA2 : Hid (AllLast l u j) := Lib.hid (fun i h1 h2 => by
                  by_cases e : i = j
                  · subst e; rw [EK.out, ES'.out]; exact hlast
                  · exact LA.out i (by omega) h2)
                clear hlast
                go_wp2_with fail
                go_quiet (fail)
                go_wp2_with fail
                go_roundw
                case rel => exact ⟨j, by omega, by go_num, LA2.out, G8.out.drewN _⟩
                case measure => simp [intOf]
              · have hb : (u[j] == (l[j].choices.length : Int) - 1) = false := by simp [hlast]
                have hlt2 : sOf u j + 1 < kOf l j := by rw [EK.out, ES'.out]; omega
                have NX := Lib.hid (nxS_ok HU.out hjl hlt2 (fun i hi => by
                  rw [kOf_at hi]
                  have := HC1.out _ (List.getElem_mem hi)
                  omega))
                have NM := Lib.hid (num_nxS HU.out hjl LA.out)
                have u1 : IntKind.i64.wrap (u[j] + 1) = u[j] + 1 := by rw [IntKind.wrap_i64]; omega
                have f0 := V8.out.row.free j
                clear hlast
                have NXe : Hid (nxS u j = (u.set j (u[j] + 1)).take (j + 1) ++ List.replicate (l.length - (j + 1)) 0 ++ (u.set j (u[j] + 1)).drop (j + 1 + (l.length - (j + 1)))) := Lib.hid (by
                  unfold nxS nxV
                  rw [ES'.out, UL.out, List.drop_of_length_le (by rw [List.length_set, UL.out]; omega), List.append_nil, List.set_append_left _ _ (by rw [List.length_take]; omega), List.take_set])
                have SN : Hid (stN step st l (k + 1) = stN step st l (k + 1)) := Lib.hid rfl
                go_wp2_with fail
                go_quiet (fail)
                obtain ⟨W9, hW9⟩ : ∃ W9 : World, wr.drewN nq = W9 := ⟨_, rfl⟩
                have V9 : Hid (VI I w0 w (allB l ms) ab SB GL L0 (stN step st l (k + 1)) W9 u) := Lib.hid (by rw [← hW9]; exact V8.out.grow HI.out HL.out ((Gr.refl _).drewN _))
                rw [hW9]
                clear hW9 e0 f0 rh d0 d1 d2 d3 d4 hh
                have e0 := V9.out.row.iat j hju
                have rh := V9.out.row.has
                have f0 := V9.out.row.free j
                obtain ⟨W10, hW10⟩ : ∃ W10 : World, W10 = W9.setCell ⟨SB, j, none⟩ (.int .i64 (u[j] + 1)) := ⟨_, rfl⟩
                have R10 : Hid (Row W10 SB 3 (nums (u.set j (u[j] + 1)))) := Lib.hid (by rw [hW10]; exact V9.out.row.iset j _)
                have g10 : Hid (W9.grownBy W10 (some SB)) := Lib.hid (by rw [hW10]; exact grownBy_set _ _ _ _)
                have ul2 : (u.set j (u[j] + 1)).length = l.length := by rw [List.length_set, UL.out]
                by_cases hj2 : l.length = j + 1
                · have hq : (l.length = j + 1) = True := eq_true hj2
                  have hc0 : ∀ w, (Builtin.clear_ #[22] 0 #[.slice (some ⟨SB, 0, none⟩) 0 0]).run Tryd.prog w = .ok (.tuple #[]) w := fun w => by
                    simp [Builtin.clear_, run_underlying Tryd.underlying22]
                  have R11 : Hid (Row W10 SB 3 (nums (nxS u j))) := Lib.hid (by
                    rw [NXe.out, show l.length - (j + 1) = 0 by omega, List.replicate_zero, List.append_nil, Nat.add_zero, List.take_append_drop]; exact R10.out)
                  have V11 := Lib.hid (V9.out.put HI.out HL.out sb.out s0.out g10.out R11.out)
                  have jz : l.length - (j + 1) = 0 := by omega
                  clear hj2 R10 NXe
                  go_wp2_with fail
                  rw [← hW10]
                  go_roundg (gk - 1)
                  case measure => have := (num_bound NX.out).2; have := NM.out; have := HN.out; have := GK.out; omega
                  case rel => exact ⟨nxS u j, k + 1, NX.out, by rw [NM.out, HN.out]; simp, by have := (num_bound NX.out).2; have := NM.out; have := HN.out; have := GK.out; omega, V11.out, MO2.out⟩
                · have hq : (l.length = j + 1) = False := eq_false hj2
                  obtain ⟨W11, hW11⟩ : ∃ W11 : World, W11 = W10.setCells SB (j + 1) (List.replicate (l.length - (j + 1)) (.int .i64 0)) := ⟨_, rfl⟩
                  have R11 : Hid (Row W11 SB 3 (nums (nxS u j))) := Lib.hid (by
                    rw [NXe.out, hW11]
                    exact row_setCells _ _ _ _ R10.out (by rw [ul2]; omega))
                  have g11 : Hid (W9.grownBy W11 (some SB)) := Lib.hid (by
                    have h2 := grown_setCells SB (List.replicate (l.length - (j + 1)) (.int .i64 0)) (j + 1) W10
                    rw [← hW11] at h2
                    have h1 := g10.out
                    exact ⟨h2.os.trans h1.os, h2.tape.trans h1.tape, h2.output.trans h1.output, Nat.le_trans h1.size h2.size, fun k hk hne => (h2.block k (Nat.lt_of_lt_of_le hk h1.size) hne).trans (h1.block k hk hne)⟩)
                  have V11 := Lib.hid (V9.out.put HI.out HL.out sb.out s0.out g11.out R11.out)
                  have hcl : (Builtin.clear_ #[22] 0 #[.slice (some ⟨SB, j + 1, none⟩) (l.length - (j + 1)) (l.length - (j + 1))]).run Tryd.prog (W9.setCell ⟨SB, j, none⟩ (.int .i64 (u[j] + 1))) = .ok (.tuple #[]) W11 := by
                    rw [hW11, ← hW10]
                    obtain ⟨i0, hi0, hz0, hz1, hz2⟩ := info_parts infoInt
                    exact Lib.run_clear_slice W10 22 3 0 (.int .i64 0) Tryd.underlying22 (fun w => by simp [zeroValue, typeInfo, hi0, hz0]) rfl rfl SB (j + 1) (l.length - (j + 1)) (l.length - (j + 1)) (by omega) (fun q hq => by
                      have := R10.out.iat (j + 1 + q) (by rw [ul2]; omega)
                      rw [this]; rfl) (fun q hq => R10.out.free _)
                  clear hj2 R10 NXe hW11 hW10
                  go_wp2_with fail
                  go_roundg (gk - 1)
                  case measure => have := (num_bound NX.out).2; have := NM.out; have := HN.out; have := GK.out; omega
                  case rel => exact ⟨nxS u j, k + 1, NX.out, by rw [NM.out, HN.out]; simp, by have := (num_bound NX.out).2; have := NM.out; have := HN.out; have := GK.out; omega, V11.out, MO2.out⟩
end Go.Proofs.YtenehghpmnajpaaDoor

/- Lemmas and contracts for the proof of TuningAnswers (several texts in one, printed by wip/tools/pack.py): VsM LsA LsP LsB. -/
import Derived.Test.YtenehghpmnajpaaGreatDoorTa7pp
import Derived.Deep.LoopGhost
set_option linter.unusedVariables false
set_option linter.unusedSimpArgs false
namespace Go.Proofs.YtenehghpmnajpaaGreatDoor
open Go.RowKit
open Classical
/-- What the function does at a setting. -/
def SeeM {σ : Type} (I : Lie σ) (step : σ → List Int → σ) (more : σ → Bool) (l : List Clk) (ms : List Lmt) (c1 c2 : Nat) (w0 : World) (st0 : σ) : Prop :=
  ∀ (s : List Int) (st : σ) (w : World) (L : List Nat) (B c : Nat) (k : Nat), num l s = (k : Int) → st = stN step st0 l k → SetOk l s → Gr w0 w → I st w L → (∀ b ∈ L, Has w b) → Row w B 3 (nums s) → B ∈ L →
    Calls Tryz.prog 64 #[.slice (some ⟨B, 0, none⟩) l.length c, vU64 (bitsS l ms s), .pointer (some ⟨c1, 0, none⟩), .pointer (some ⟨c2, 0, none⟩)] w fun e w' => e = .returned (.bool (more (step st s))) ∧ I (step st s) w' L ∧ Gr w0 w' ∧ (∀ b ∈ L, w'.heap[b]? = w.heap[b]?) ∧ w.heap.size ≤ w'.heap.size
set_option maxRecDepth 100000 in
set_option maxHeartbeats 2000000 in
theorem visitM_any {σ : Type} (I : Lie σ) (step : σ → List Int → σ) (more : σ → Bool) (l : List Clk) (ms : List Lmt) (al am : Option Addr) (cl cm c1 c2 : Nat) (L0 : List Nat) (w0 w : World) (st : σ)
    (henv : Env w0 l ms al am) (hg0 : Gr w0 w) (hL : ∀ b ∈ L0, Has w b) (hI : LieOk I)
    (hst : ∀ w1 L, Gr w w1 → (∀ b ∈ L, b ∈ L0 ∨ w.heap.size ≤ b) → I st w1 L) (hv : SeeM I step more l ms c1 c2 w0 st) :
    Calls Tryz.prog 58 #[.slice al l.length cl, .slice am ms.length cm, .func (.func 64) #[] #[.pointer (some ⟨c1, 0, none⟩), .pointer (some ⟨c2, 0, none⟩)]] w fun e w' =>
      e = .returned (.tuple #[]) ∧ ∃ k : Nat, 1 ≤ k ∧ k ≤ prodC l ∧ I (stN step st l k) w' L0 ∧ (k = prodC l ∨ more (stN step st l k) = false) ∧ (∀ j, 1 ≤ j → j < k → more (stN step st l j) = true) ∧ Gr w0 w' ∧ (∀ b ∈ L0, w'.heap[b]? = w.heap[b]?) ∧ w.heap.size ≤ w'.heap.size := by
  obtain ⟨nb, okC, prC, _⟩ := cchk_zero henv.chk
  have hl := small_len nb
  have hml := henv.lims.1
  have NB := Lib.hid nb
  have HE := Lib.hid henv
  have HG0 := Lib.hid hg0
  have HL := Lib.hid hL
  have HI := Lib.hid hI
  have HS := Lib.hid hst
  have HV := Lib.hid hv
  have HC1 := Lib.hid (allOk_cho okC)
  have AL := all_any l ms al am cl cm w (clks_gr henv.clks hg0) (lmts_gr henv.lmts hg0) hl hml
  have AL' := Lib.hid AL
  have BL : Hid ((allB l ms).length ≤ 48) := Lib.hid (by have := allB_len l ms; omega)
  have BO := Lib.hid (allB_ok (l := l) (ms := ms) henv.lims)
  have hmk := run_make_row' (P := Tryz.prog) 22 3 (.int .i64 0) 8 Tryz.underlying22 infoInt rfl .i64 .i64 l.length (by omega) (by omega)
  have Z : Hid (SetOk l (List.replicate l.length 0) ∧ num l (List.replicate l.length 0) = 0) := Lib.hid (by
    have hz : ∀ i, sOf (List.replicate l.length 0) i = 0 := fun i => by
      unfold sOf
      rw [List.getD_eq_getElem?_getD, List.getElem?_replicate]; split <;> rfl
    refine ⟨setOk_of (by rw [List.length_replicate]) (fun i hi => ?_), ?_⟩
    · rw [hz, kOf_at hi]
      have := HC1.out _ (List.getElem_mem hi); omega
    · have : ∀ j, numU (kOf l) (sOf (List.replicate l.length 0)) j = 0 := by
        intro j
        induction j with
        | zero => rfl
        | succ j ih => simp only [numU]; rw [ih, hz]; simp
      exact this _)
  have PC : Hid (1 ≤ prodC l) := Lib.hid (prodC_pos HC1.out)
  clear nb henv hg0 hL hI hst hv AL okC
  go_enter Tryz.func58, Tryz.ntmps58
  go_wp2_with fail
  refine AL'.out.mono ?_
  rintro e w1 ⟨v, rfl, ho, hg1⟩
  obtain ⟨ab, cb, rfl, hbs⟩ := bnds_of_owns ho
  obtain ⟨GL, hGL⟩ : ∃ GL : List Nat, Hid ((∀ x, 0 < (allB l ms).length → ab = some x → x.block ∈ GL) ∧ (∀ b ∈ GL, Has w1 b ∧ w.heap.size ≤ b)) := by
    by_cases h0 : 0 < (allB l ms).length
    · obtain ⟨g, cap, e, _, hb, hc⟩ := owns_cell ho h0
      cases e
      obtain ⟨b', o', e', q, _⟩ := hbs 0 h0
      cases e'
      exact ⟨[g], Lib.hid ⟨fun x _ e => by cases e; simp, fun b hb' => by
        have : b = g := by simpa using hb'
        subst this
        exact ⟨has_of_cell q, hb⟩⟩⟩
    · exact ⟨[], Lib.hid ⟨fun x h _ => absurd h h0, fun b hb => by cases hb⟩⟩
  have BS := Lib.hid hbs
  have G1 := Lib.hid hg1
  clear ho hbs hg1 AL'
  go_wp2_with fail
  obtain ⟨W2, hW2⟩ : ∃ W2 : World, Hid (W2 = w1.alloc (.cells (madeCells #[.int .i64 0] l.length) 3)) := ⟨_, Lib.hid rfl⟩
  rw [← hW2.out]
  obtain ⟨SB, hSB⟩ : ∃ SB : Nat, Hid (w1.heap.size = SB) := ⟨_, Lib.hid rfl⟩
  rw [hSB.out]
  have g2 : Hid (Gr w1 W2) := Lib.hid (by rw [hW2.out]; exact (Gr.refl _).alloc _)
  have sb : Hid (w.heap.size ≤ SB) := Lib.hid (by have := G1.out.size; have := hSB.out; omega)
  have s0 : Hid (w0.heap.size ≤ SB) := Lib.hid (Nat.le_trans HG0.out.size sb.out)
  have V2 : Hid (VI I w0 w (allB l ms) ab SB GL L0 st W2 (List.replicate l.length 0)) := Lib.hid
    { row := by
        rw [hW2.out, ← hSB.out]
        have := Row.new w1 (madeCells #[.int .i64 0] l.length) 3
        rw [made_zero] at this
        have e : nums (List.replicate l.length 0) = List.replicate l.length (.int .i64 0) := by simp [nums]
        rw [e]; exact this
      lst := BS.out.gr RBnd.mono g2.out
      lblk := hGL.out.1
      has := fun b hb => Nat.lt_of_lt_of_le (hGL.out.2 b hb).1 g2.out.size
      ne := fun q => by have := (hGL.out.2 _ q).1; have := hSB.out; unfold Has at *; omega
      st := HS.out _ _ (G1.out.trans g2.out) (fun b hb => by
        rcases List.mem_cons.1 hb with e | hb
        · subst e; exact .inr sb.out
        · rcases List.mem_append.1 hb with hb | hb
          · exact .inr (hGL.out.2 b hb).2
          · exact .inl hb)
      gr := HG0.out.trans (G1.out.trans g2.out)
      keep := fun b hb => (G1.out.trans g2.out).below.block b (HL.out b hb)
      size := (G1.out.trans g2.out).size }
  clear hW2 BS G1 g2 hGL hSB hmk HS
  go_loopg [10] (prodC l) (fun gg s10 wx => ∃ (u : List Int) (k : Nat), SetOk l u ∧ num l u = (k : Int) ∧ gg + k = prodC l ∧ VI I w0 w (allB l ms) ab SB GL L0 (stN step st l k) wx u ∧ ∀ j, 1 ≤ j → j ≤ k → more (stN step st l j) = true)
  case atStart => exact ⟨_, 0, Z.out.1, Z.out.2, by simp, V2.out, fun j h1 h2 => by omega⟩
  case round =>
    clear V2 Z
    obtain ⟨u, k, hu, hnum, hgk, hvi, hmore⟩ := hrel
    have HU := Lib.hid hu
    have HN := Lib.hid hnum
    have GK := Lib.hid hgk
    have V3 := Lib.hid hvi
    have MO := Lib.hid hmore
    have UL := Lib.hid hu.1
    have RT := pRates_any l u al (some ⟨SB, 0, none⟩) cl l.length wr (clks_gr HE.out.clks hvi.gr) (hvi.row.s.slI (setOk_wide HE.out.chk hu)) HE.out.chk hu (HE.out.off.gr hvi.gr)
    rw [hu.1] at RT
    have RT' := Lib.hid RT
    clear hu hnum hgk hvi hmore RT
    go_wp2_with fail
    refine RT'.out.mono ?_
    rintro e w3 ⟨RB, rfl, hrr, hrb, hg3⟩
    have V4 := Lib.hid (V3.out.grow HI.out HL.out hg3)
    have RR := Lib.hid hrr
    have RL : Hid ((rts l u).length = l.length) := Lib.hid (by rw [rts_len _ _ UL.out.symm])
    have RG := Lib.hid (rts_good HE.out.chk HU.out)
    clear hrr hrb hg3 RT' V3
    obtain ⟨R, eR⟩ : ∃ R, Hid (rts l u = R) := ⟨_, Lib.hid rfl⟩
    rw [eR.out] at RR RL RG
    obtain ⟨acc0, hacc0⟩ : ∃ acc0 : Int, Hid (acc0 = ((bitAcc (brk l ms u) 0).toNat : Int)) := ⟨_, Lib.hid rfl⟩
    go_wp2_with fail
    obtain ⟨wo, hwo⟩ : ∃ wo : World, wo = w3 := ⟨_, rfl⟩
    rw [← hwo] at V4 RR ⊢
    clear hwo
    go_loopw [10, 28] (fun s10 s28 wr => ∃ i : Nat, i ≤ (allB l ms).length ∧ s28 = .int .i64 (i : Int) ∧ s10 = vU64 (bitAcc (brk l ms u) i) ∧ Gr wo wr) (fun _ s28 _ => (allB l ms).length - (intOf s28).toNat)
    case atStart => exact ⟨0, Nat.zero_le _, rfl, rfl, Gr.refl _⟩
    case round =>
      obtain ⟨i, hi, rfl, rfl, hg⟩ := hrel
      have G5 := Lib.hid hg
      by_cases hlt : i < (allB l ms).length
      · have i2 : (i : Int) < (allB l ms).length := by omega
        obtain ⟨b, o, eab, d0, d1, d2, d3, d4⟩ := (V4.out.lst.gr RBnd.mono hg) i hlt
        subst eab
        obtain ⟨q0, q1⟩ := BO.out _ (List.getElem_mem hlt)
        obtain ⟨x, hx⟩ : ∃ x, (allB l ms)[i] = x := ⟨_, rfl⟩
        have BK := brk_at (s := u) hlt
        rw [eR.out] at BK
        rw [hx] at d0 d1 d2 d3 d4 q0 q1 BK
        obtain ⟨q, hq⟩ : ∃ q : Nat, x.clock = q := ⟨_, (Int.toNat_of_nonneg q0).symm⟩
        have hqR : q < R.length := by have := RL.out; omega
        have eq : x.clock.toNat = q := by omega
        rw [eq] at BK
        have e := rtAt_eq hqR
        have hgd : GoodR (rtAt R q) := by rw [e]; exact RG.out q hqR
        have r0 := (RR.out.gr hg).cell (q * 2) (by rw [encP_len, List.length_map]; omega)
        have r1 := (RR.out.gr hg).cell (q * 2 + 1) (by rw [encP_len, List.length_map]; omega)
        have hat := encP_at (R.map prR) q (by rw [List.length_map]; exact hqR)
        rw [hat.1] at r0
        rw [hat.2] at r1
        simp only [List.getElem_map, prR] at r0 r1
        rw [← e] at r0 r1
        obtain ⟨r, hr⟩ : ∃ r, rtAt R q = r := ⟨_, rfl⟩
        rw [hr] at r0 r1 hgd BK
        have BR := Lib.hid (fun W => broken_any x r W hgd)
        have hh := has_of_cell d0
        have h0 := has_of_cell r0
        have q2 : (q : Int) < l.length := by omega
        rw [hq] at d1 BR
        have HB := Lib.hid BK
        have accS : Hid (bitAcc (brk l ms u) (i + 1) = if brk l ms u i = true then bitAcc (brk l ms u) i ||| BitVec.twoPow 64 i else bitAcc (brk l ms u) i) := Lib.hid rfl
        have i64 : i < 64 := by have := BL.out; omega
        obtain ⟨A, hA⟩ : ∃ A, bitAcc (brk l ms u) i = A := ⟨_, rfl⟩
        rw [hA] at accS ⊢
        clear hg hat e hr hgd BK hq eq q0 q1 hx hA
        cases hb : brokB x r with
        | false =>
          rw [hb] at BR HB
          have S1 : Hid (bitAcc (brk l ms u) (i + 1) = A) := Lib.hid (by rw [accS.out, HB.out]; simp)
          clear hb accS
          go_wp2_with fail
          refine wp_region_grows (by kernel_rfl) (by kernel_rfl) ?_
          repeat (go_big_quiet_step (first | (go_at_call 74; exact calls_grows (BR.out _))))
          refine wpQuiet_nil ?_
          rintro _ ⟨⟨O, d⟩, rfl⟩
          go_wp2_with fail
          go_roundw
          case rel => exact ⟨i + 1, by omega, by go_num, by rw [S1.out], (G5.out.alloc _).xt _ _⟩
          case measure => simp [intOf]; omega
        | true =>
          rw [hb] at BR HB
          have S1 : Hid (bitAcc (brk l ms u) (i + 1) = A ||| BitVec.twoPow 64 i) := Lib.hid (by rw [accS.out, HB.out]; simp)
          have OB := Lib.hid (or_bits A i i64)
          clear hb accS
          unfold vU64
          go_wp2_with fail
          refine wp_region_grows (by kernel_rfl) (by kernel_rfl) ?_
          repeat (go_big_quiet_step (first | (go_at_call 74; exact calls_grows (BR.out _))))
          refine wpQuiet_nil ?_
          rintro _ ⟨⟨O, d⟩, rfl⟩
          go_wp2_with fail
          go_roundw
          case rel => exact ⟨i + 1, by omega, by go_num, by rw [S1.out]; exact OB.out, (G5.out.alloc _).xt _ _⟩
          case measure => simp [intOf]; omega
      · have hi' : i = (allB l ms).length := by omega
        subst hi'
        have V6' := V4.out.grow HI.out HL.out hg
        have V6 := Lib.hid V6'
        have CV := HV.out u (stN step st l k) wr _ SB l.length k HN.out rfl HU.out V6'.gr V6'.st (V6'.hasL HL.out) V6'.row (by simp)
        have CV' := Lib.hid CV
        have ES : Hid (stN step st l (k + 1) = step (stN step st l k) u) := Lib.hid (by rw [stN_succ, setN_eq HU.out HN.out])
        have BB : Hid (bitAcc (brk l ms u) (allB l ms).length = bitsS l ms u) := Lib.hid rfl
        rw [BB.out]
        rw [← ES.out] at CV'
        clear hg V6' CV V4 RR G5 hacc0
        obtain ⟨X, hX⟩ : ∃ X, vU64 (bitsS l ms u) = X := ⟨_, rfl⟩
        rw [hX] at CV' ⊢
        clear hX
        go_wp2_with fail
        refine CV'.out.mono ?_
        rintro e w7 ⟨rfl, hs1, hs2, hs3, hs4⟩
        have V7 := Lib.hid (V6.out.call hs1 hs2 hs3 hs4)
        clear hs1 hs2 hs3 hs4 V6 CV'
        cases hm : more (stN step st l (k + 1)) with
        | false =>
          have HM := Lib.hid hm
          clear hm
          go_wp2_with fail
          refine bodyPost_ret (results_none rfl _ _ _) rfl ?_
          refine ⟨rfl, ?_⟩
          exact ⟨k + 1, by omega, by have := (num_bound HU.out).2; have := HN.out; omega, HI.out.sub _ _ _ _ V7.out.st (fun b hb => by simp [hb]), .inr HM.out, fun j h1 h2 => MO.out j h1 (by omega), V7.out.gr, V7.out.keep, V7.out.size⟩
        | true =>
          have HM := Lib.hid hm
          clear hm
          go_wp2_with fail
          have MO2 : Hid (∀ j, 1 ≤ j → j ≤ k + 1 → more (stN step st l j) = true) := Lib.hid (fun j h1 h2 => by
            by_cases e : j = k + 1
            · subst e; exact HM.out
            · exact MO.out j h1 (by omega))
          have wq : IntKind.i64.wrap ((l.length : Int) - 1) = (l.length : Int) - 1 := by rw [IntKind.wrap_i64]; omega
          obtain ⟨wo, hwo⟩ : ∃ wo : World, wo = w7 := ⟨_, rfl⟩
          rw [← hwo] at V7 ⊢
          clear hwo
          go_loopw [13] (fun s13 wr => ∃ j : Nat, j ≤ l.length ∧ s13 = .int .i64 ((j : Int) - 1) ∧ AllLast l u j ∧ Gr wo wr) (fun s13 _ => (intOf s13 + 1).toNat)
          case atStart => exact ⟨l.length, Nat.le_refl _, rfl, fun i h1 h2 => by omega, Gr.refl _⟩
          case round =>
            obtain ⟨j, hj, rfl, hla, hg⟩ := hrel
            have LA := Lib.hid hla
            have G8 := Lib.hid hg
            have V8 := Lib.hid (V7.out.grow HI.out HL.out hg)
            clear hla hg
            cases j with
            | zero =>
              have e0 : (((0 : Nat) : Int) - 1) = -1 := by omega
              rw [e0]
              go_wp2_with fail
              go_quiet (fail)
              go_wp2_with fail
              refine bodyPost_ret (results_none rfl _ _ _) rfl ?_
              refine ⟨rfl, ?_⟩
              have nl := num_last LA.out
              exact ⟨k + 1, by omega, by have := HN.out; omega, HI.out.sub _ _ _ _ (V8.out.grow HI.out HL.out ((Gr.refl _).drewN _)).st (fun b hb => by simp [hb]), .inl (by have := HN.out; omega), fun j h1 h2 => MO.out j h1 (by omega), V8.out.gr.drewN _, V8.out.keep, V8.out.size⟩
            | succ j =>
              rw [show (((j + 1 : Nat) : Int) - 1) = (j : Int) by omega]
              have hjl : j < l.length := by omega
              have hju : j < u.length := by rw [UL.out]; exact hjl
              obtain ⟨k0, k1⟩ := HU.out.2 j hjl hju
              obtain ⟨fp, fc⟩ := small_at NB.out hjl
              obtain ⟨b, o, eal, ⟨d0, _⟩, ⟨ap, cp, d1, _⟩, ⟨ac, cc, d2, _, d2f, _⟩, ⟨d3, _⟩, ⟨d4, _⟩⟩ := clks_gr HE.out.clks V8.out.gr j hjl
              subst eal
              have e0 := V8.out.row.iat j hju
              have rh := V8.out.row.has
              have hh := has_of_cell d0
              have j2 : (j : Int) < l.length := by omega
              have EK : Hid (kOf l j = (l[j].choices.length : Int)) := Lib.hid (kOf_at hjl)
              have ES' : Hid (sOf u j = u[j]) := Lib.hid (sOf_at hju)
              have ww : IntKind.i64.wrap ((l[j].choices.length : Int) - 1) = (l[j].choices.length : Int) - 1 := by rw [IntKind.wrap_i64]; omega
              unfold Fit at d2f
              by_cases hlast : u[j] = (l[j].choices.length : Int) - 1
              · have hb : (u[j] == (l[j].choices.length : Int) - 1) = true := by simp [hlast]
                have LA2 : Hid (AllLast l u j) := Lib.hid (fun i h1 h2 => by
                  by_cases e : i = j
                  · subst e; rw [EK.out, ES'.out]; exact hlast
                  · exact LA.out i (by omega) h2)
                clear hlast
                go_wp2_with fail
                go_quiet (fail)
                go_wp2_with fail
                go_roundw
                case rel => exact ⟨j, by omega, by go_num, LA2.out, G8.out.drewN _⟩
                case measure => simp [intOf]
              · have hb : (u[j] == (l[j].choices.length : Int) - 1) = false := by simp [hlast]
                have hlt2 : sOf u j + 1 < kOf l j := by rw [EK.out, ES'.out]; omega
                have NX := Lib.hid (nxS_ok HU.out hjl hlt2 (fun i hi => by
                  rw [kOf_at hi]
                  have := HC1.out _ (List.getElem_mem hi)
                  omega))
                have NM := Lib.hid (num_nxS HU.out hjl LA.out)
                have u1 : IntKind.i64.wrap (u[j] + 1) = u[j] + 1 := by rw [IntKind.wrap_i64]; omega
                have f0 := V8.out.row.free j
                clear hlast
                have NXe : Hid (nxS u j = (u.set j (u[j] + 1)).take (j + 1) ++ List.replicate (l.length - (j + 1)) 0 ++ (u.set j (u[j] + 1)).drop (j + 1 + (l.length - (j + 1)))) := Lib.hid (by
                  unfold nxS nxV
                  rw [ES'.out, UL.out, List.drop_of_length_le (by rw [List.length_set, UL.out]; omega), List.append_nil, List.set_append_left _ _ (by rw [List.length_take]; omega), List.take_set])
                have SN : Hid (stN step st l (k + 1) = stN step st l (k + 1)) := Lib.hid rfl
                go_wp2_with fail
                go_quiet (fail)
                obtain ⟨W9, hW9⟩ : ∃ W9 : World, wr.drewN nq = W9 := ⟨_, rfl⟩
                have V9 : Hid (VI I w0 w (allB l ms) ab SB GL L0 (stN step st l (k + 1)) W9 u) := Lib.hid (by rw [← hW9]; exact V8.out.grow HI.out HL.out ((Gr.refl _).drewN _))
                rw [hW9]
                clear hW9 e0 f0 rh d0 d1 d2 d3 d4 hh
                have e0 := V9.out.row.iat j hju
                have rh := V9.out.row.has
                have f0 := V9.out.row.free j
                obtain ⟨W10, hW10⟩ : ∃ W10 : World, W10 = W9.setCell ⟨SB, j, none⟩ (.int .i64 (u[j] + 1)) := ⟨_, rfl⟩
                have R10 : Hid (Row W10 SB 3 (nums (u.set j (u[j] + 1)))) := Lib.hid (by rw [hW10]; exact V9.out.row.iset j _)
                have g10 : Hid (W9.grownBy W10 (some SB)) := Lib.hid (by rw [hW10]; exact grownBy_set _ _ _ _)
                have ul2 : (u.set j (u[j] + 1)).length = l.length := by rw [List.length_set, UL.out]
                by_cases hj2 : l.length = j + 1
                · have hq : (l.length = j + 1) = True := eq_true hj2
                  have hc0 : ∀ w, (Builtin.clear_ #[22] 0 #[.slice (some ⟨SB, 0, none⟩) 0 0]).run Tryz.prog w = .ok (.tuple #[]) w := fun w => by
                    simp [Builtin.clear_, run_underlying Tryz.underlying22]
                  have R11 : Hid (Row W10 SB 3 (nums (nxS u j))) := Lib.hid (by
                    rw [NXe.out, show l.length - (j + 1) = 0 by omega, List.replicate_zero, List.append_nil, Nat.add_zero, List.take_append_drop]; exact R10.out)
                  have V11 := Lib.hid (V9.out.put HI.out HL.out sb.out s0.out g10.out R11.out)
                  have jz : l.length - (j + 1) = 0 := by omega
                  clear hj2 R10 NXe
                  go_wp2_with fail
                  rw [← hW10]
                  go_roundg (gk - 1)
                  case measure => have := (num_bound NX.out).2; have := NM.out; have := HN.out; have := GK.out; omega
                  case rel => exact ⟨nxS u j, k + 1, NX.out, by rw [NM.out, HN.out]; simp, by have := (num_bound NX.out).2; have := NM.out; have := HN.out; have := GK.out; omega, V11.out, MO2.out⟩
                · have hq : (l.length = j + 1) = False := eq_false hj2
                  obtain ⟨W11, hW11⟩ : ∃ W11 : World, W11 = W10.setCells SB (j + 1) (List.replicate (l.length - (j + 1)) (.int .i64 0)) := ⟨_, rfl⟩
                  have R11 : Hid (Row W11 SB 3 (nums (nxS u j))) := Lib.hid (by
                    rw [NXe.out, hW11]
                    exact row_setCells _ _ _ _ R10.out (by rw [ul2]; omega))
                  have g11 : Hid (W9.grownBy W11 (some SB)) := Lib.hid (by
                    have h2 := grown_setCells SB (List.replicate (l.length - (j + 1)) (.int .i64 0)) (j + 1) W10
                    rw [← hW11] at h2
                    have h1 := g10.out
                    exact ⟨h2.os.trans h1.os, h2.tape.trans h1.tape, h2.output.trans h1.output, Nat.le_trans h1.size h2.size, fun k hk hne => (h2.block k (Nat.lt_of_lt_of_le hk h1.size) hne).trans (h1.block k hk hne)⟩)
                  have V11 := Lib.hid (V9.out.put HI.out HL.out sb.out s0.out g11.out R11.out)
                  have hcl : (Builtin.clear_ #[22] 0 #[.slice (some ⟨SB, j + 1, none⟩) (l.length - (j + 1)) (l.length - (j + 1))]).run Tryz.prog (W9.setCell ⟨SB, j, none⟩ (.int .i64 (u[j] + 1))) = .ok (.tuple #[]) W11 := by
                    rw [hW11, ← hW10]
                    obtain ⟨i0, hi0, hz0, hz1, hz2⟩ := info_parts infoInt
                    exact Lib.run_clear_slice W10 22 3 0 (.int .i64 0) Tryz.underlying22 (fun w => by simp [zeroValue, typeInfo, hi0, hz0]) rfl rfl SB (j + 1) (l.length - (j + 1)) (l.length - (j + 1)) (by omega) (fun q hq => by
                      have := R10.out.iat (j + 1 + q) (by rw [ul2]; omega)
                      rw [this]; rfl) (fun q hq => R10.out.free _)
                  clear hj2 R10 NXe hW11 hW10
                  go_wp2_with fail
                  go_roundg (gk - 1)
                  case measure => have := (num_bound NX.out).2; have := NM.out; have := HN.out; have := GK.out; omega
                  case rel => exact ⟨nxS u j, k + 1, NX.out, by rw [NM.out, HN.out]; simp, by have := (num_bound NX.out).2; have := NM.out; have := HN.out; have := GK.out; omega, V11.out, MO2.out⟩
end Go.Proofs.YtenehghpmnajpaaGreatDoor

set_option linter.unusedVariables false
set_option linter.unusedSimpArgs false
namespace Go.Proofs.YtenehghpmnajpaaGreatDoor
open Go.RowKit
open Classical
theorem infoU64 : (Tryz.prog.info? 99).map (fun i => (i.zero, i.size, i.bytes)) = some (some (.int .u64 0), 1, 8) := by kernel_rfl
noncomputable def stepL (l : List Clk) (ms : List Lmt) (st : List (BitVec 64)) (s : List Int) : List (BitVec 64) := st ++ [bitsS l ms s]
def freeL (st : List (BitVec 64)) : Bool := st.any fun b => decide (b = 0)
theorem stN_stepL (l : List Clk) (ms : List Lmt) (k : Nat) : stN (stepL l ms) [] l k = (List.range k).map fun j => bitsS l ms (setN l j) := by
  induction k with
  | zero => rfl
  | succ k ih =>
    rw [stN_succ, ih, List.range_succ, List.map_append]; rfl
theorem freeL_snoc (st : List (BitVec 64)) (x : BitVec 64) : freeL (st ++ [x]) = (freeL st || decide (x = 0)) := by simp [freeL]
/-- What was gathered, in two variables. -/
def LieL (BS BF : Nat) (w0 : World) : Lie (List (BitVec 64)) := fun st w L => BS ∉ L ∧ BF ∉ L ∧ w0.heap.size ≤ BS ∧ w0.heap.size ≤ BF ∧ BS ≠ BF ∧ Row w BF 4 [.bool (freeL st)] ∧
  ∃ a c, Row w BS 103 [.slice a st.length c] ∧ w.ownsRow w0.heap.size 99 1 (.slice a st.length c) st.length (st.map vU64) ∧ ∀ g, (Value.slice a st.length c).ownBlock = some g → g ∉ L
theorem lieL_ok (BS BF : Nat) (w0 : World) : LieOk (LieL BS BF w0) where
  keep := fun st w w' L row h hg hr => by
    obtain ⟨a1, a2, a3, a4, a5, a6, a, c, a7, a8, a9⟩ := h
    refine ⟨a1, a2, a3, a4, a5, a6.grown hg (fun e => a2 (hr BF e.symm)), a, c, a7.grown hg (fun e => a1 (hr BS e.symm)), a8.kept hg ?_, a9⟩
    cases eo : (Value.slice a st.length c).ownBlock with
    | none => exact .inl rfl
    | some g => exact .inr (fun e => a9 g eo (hr g e.symm))
  sub := fun st w L L' h hs => by
    obtain ⟨a1, a2, a3, a4, a5, a6, a, c, a7, a8, a9⟩ := h
    exact ⟨fun q => a1 (hs _ q), fun q => a2 (hs _ q), a3, a4, a5, a6, a, c, a7, a8, fun g hg q => a9 g hg (hs _ q)⟩
set_option maxRecDepth 100000 in
set_option maxHeartbeats 2000000 in
theorem seeM (l : List Clk) (ms : List Lmt) (BS BF : Nat) (w0 : World) (hc : cchk l = 0) : SeeM (LieL BS BF w0) (stepL l ms) (fun _ => true) l ms BS BF w0 [] := by
  intro s st w L B c k hk hst hs hg hI hL hB hBL
  obtain ⟨i0, hi, hz0, hz1, hz2⟩ := info_parts infoU64
  have sl : st.length ≤ 4096 := by
    rw [hst, stN_stepL, List.length_map, List.length_range]
    have := (num_bound hs).2
    have := (cchk_zero hc).2.2.1
    omega
  have HG := Lib.hid hg
  have HL := Lib.hid hL
  obtain ⟨n1, n2, z1, z2, z3, RF, a, cc, RS, OS, n3⟩ := hI
  have RF' := Lib.hid RF
  have RS' := Lib.hid RS
  have OS' := Lib.hid OS
  have N3 := Lib.hid n3
  have N1 := Lib.hid n1
  have N2 := Lib.hid n2
  have z4 : ¬ (BF = BS) := fun e => z3 e.symm
  have z3' : ¬ (BS = BF) := z3
  have o0 := RS.cell 0 (by simp)
  have oh := RS.has
  simp only [List.getElem_cons_zero] at o0
  unfold vU64
  obtain ⟨xb, hxb⟩ : ∃ xb, bitsS l ms s = xb := ⟨_, rfl⟩
  have ST : Hid (stepL l ms st s = st ++ [xb]) := Lib.hid (by unfold stepL; rw [hxb])
  have FR : Hid (freeL (stepL l ms st s) = (freeL st || decide (xb = 0))) := Lib.hid (by rw [ST.out, freeL_snoc])
  rw [hxb]
  have ZB : Hid (((xb.toNat : Int) == 0) = decide (xb = 0)) := Lib.hid (bits_eq0 xb)
  obtain ⟨X, hX⟩ : ∃ X : Int, (xb.toNat : Int) = X := ⟨_, rfl⟩
  rw [hX] at ZB ⊢
  have VX : Hid (vU64 xb = .int .u64 X) := Lib.hid (by unfold vU64; rw [hX])
  obtain ⟨N9, hN9⟩ : ∃ N9 : Nat, Hid (w.heap.size = N9) := ⟨_, Lib.hid rfl⟩
  obtain ⟨WA, hWA⟩ : ∃ WA : World, Hid (WA = w.alloc (.cells #[.int .u64 X] 99)) := ⟨_, Lib.hid rfl⟩
  have gA : Hid (Gr w WA) := Lib.hid (by rw [hWA.out]; exact (Gr.refl _).alloc _)
  have OSa := Lib.hid (Gr.owns OS gA.out)
  have CC : Hid (∀ j u, ([.int .u64 X] : List Value)[j]? = some u → WA.cell? ((⟨N9, 0, none⟩ : Addr).add j) = some u) := Lib.hid (by
    have := row_cells (Row.new w #[.int .u64 X] 99)
    rw [← hWA.out, hN9.out] at this
    exact this)
  have one : Hid (∀ u ∈ ([.int .u64 X] : List Value), u.oneCell' = true) := Lib.hid (fun u hu => by rw [List.mem_singleton.1 hu]; rfl)
  have base : Hid (w0.heap.size ≤ WA.heap.size) := Lib.hid (HG.out.trans gA.out).size
  clear hst hk hs hg RF RS OS n3 n1 n2 hL hB hBL hX hxb
  cases hfs : freeL st with
  | true =>
    rw [hfs] at RF' FR
    have FV : Hid (freeL (stepL l ms st s) = true) := Lib.hid (by rw [FR.out, Bool.true_or])
    clear hfs FR
    go_enter Tryz.func64, Tryz.ntmps64
    go_wp2_with (first
      | (at_builtin; rw [← hWA.out, hN9.out]; refine wpList_append_gets _ rfl _ _ 103 rfl w0.heap.size 99 i0 (.int .u64 0) 1 8 Tryz.underlying103 hi hz0 hz1 hz2 rfl (by decide) (.slice a st.length cc) st.length (st.map vU64) rfl OSa.out (some ⟨N9, 0, none⟩) 1 1 [.int .u64 X] rfl ⟨rfl, fun _ => ⟨_, rfl, CC.out⟩⟩ one.out (by unfold maxLen; omega) (by omega) base.out ?_; intro v' W1 hown hgrow hblk; obtain ⟨a1, c1, rfl⟩ := owns_slice hown; have O1 := Lib.hid hown; have g1 := Lib.hid hgrow; have b1 := Lib.hid hblk; have RS1 := Lib.hid ((RS'.out.gr gA.out).grown hgrow (owns_apart OSa.out (RS'.out.gr gA.out).s (by decide))); have RF1 := Lib.hid ((RF'.out.gr gA.out).grown hgrow (owns_apart OSa.out (RF'.out.gr gA.out).s (by decide))); have s0 := RS1.out.cell 0 (by simp); have sf := RS1.out.free 0; have sh := RS1.out.has; have f0 := RF1.out.cell 0 (by simp); have ff := RF1.out.free 0; have fh := RF1.out.has; simp only [List.getElem_cons_zero] at s0 f0; clear hown hgrow hblk o0 oh hWA)
      | fail)
    go_ret
    refine ⟨rfl, ?_, ?_, ?_, ?_⟩
    · rw [ST.out]
      refine ⟨N1.out, N2.out, z1, z2, z3', ?_, a1, c1, ?_, ?_, ?_⟩
      · have := (RF1.out.oth (o := 0) (v := .slice a1 (st.length + 1) c1) z3').set 0 (.bool true)
        rw [← ST.out, FV.out]
        exact this
      · have := ((RS1.out.set 0 (.slice a1 (st.length + 1) c1)).oth (o := 0) (v := .bool true) z4)
        rw [List.length_append]
        exact this
      · have h1 := owns_set (o := 0) (x := .slice a1 (st.length + 1) c1) O1.out RS1.out.s (by decide)
        have h2 := owns_set (o := 0) (x := .bool true) h1 (RF1.out.oth (o := 0) (v := .slice a1 (st.length + 1) c1) z3').s (by decide)
        rw [List.length_append, List.map_append, List.map_cons, List.map_nil, VX.out]
        exact h2
      · intro g hg hgL
        rw [List.length_append] at hg
        have hlt : g < w.heap.size := HL.out g hgL
        rcases b1.out with q | q
        · exact N3.out g (q ▸ hg) hgL
        · have e : (Value.slice a1 (st.length + [xb].length) c1).ownBlock = some WA.heap.size := q
          rw [hg] at e
          injection e with e
          have := gA.out.size
          omega
    · exact (((HG.out.trans gA.out).grown g1.out (fun k e => (OSa.out.lt k e).1)).setc z1).setc z2
    · intro g hg
      have hlt : g < w.heap.size := HL.out g hg
      have h1 : (w.heap[g]?) = WA.heap[g]? := (gA.out.below.block g hlt).symm
      have h2 := g1.out.block g (Nat.lt_of_lt_of_le hlt gA.out.size) (fun e => N3.out g e.symm hg)
      have k1 := (grownBy_set W1 BS 0 (.slice a1 (st.length + 1) c1))
      have k2 := (grownBy_set (W1.setCell ⟨BS, 0, none⟩ (.slice a1 (st.length + 1) c1)) BF 0 (.bool true))
      have lt1 : g < W1.heap.size := Nat.lt_of_lt_of_le (Nat.lt_of_lt_of_le hlt gA.out.size) g1.out.size
      rw [k2.block g (Nat.lt_of_lt_of_le lt1 k1.size) (fun e => N2.out (by injection e with e; rw [← e]; exact hg)), k1.block g lt1 (fun e => N1.out (by injection e with e; rw [← e]; exact hg)), h2, h1]
    · have h1 := gA.out.size
      have h2 := g1.out.size
      simp only [size_set]
      omega
  | false =>
    rw [hfs] at RF' FR
    have FV : Hid (freeL (stepL l ms st s) = (X == 0)) := Lib.hid (by rw [FR.out, Bool.false_or, ZB.out])
    clear hfs FR
    go_enter Tryz.func64, Tryz.ntmps64
    go_wp2_with (first
      | (at_builtin; rw [← hWA.out, hN9.out]; refine wpList_append_gets _ rfl _ _ 103 rfl w0.heap.size 99 i0 (.int .u64 0) 1 8 Tryz.underlying103 hi hz0 hz1 hz2 rfl (by decide) (.slice a st.length cc) st.length (st.map vU64) rfl OSa.out (some ⟨N9, 0, none⟩) 1 1 [.int .u64 X] rfl ⟨rfl, fun _ => ⟨_, rfl, CC.out⟩⟩ one.out (by unfold maxLen; omega) (by omega) base.out ?_; intro v' W1 hown hgrow hblk; obtain ⟨a1, c1, rfl⟩ := owns_slice hown; have O1 := Lib.hid hown; have g1 := Lib.hid hgrow; have b1 := Lib.hid hblk; have RS1 := Lib.hid ((RS'.out.gr gA.out).grown hgrow (owns_apart OSa.out (RS'.out.gr gA.out).s (by decide))); have RF1 := Lib.hid ((RF'.out.gr gA.out).grown hgrow (owns_apart OSa.out (RF'.out.gr gA.out).s (by decide))); have s0 := RS1.out.cell 0 (by simp); have sf := RS1.out.free 0; have sh := RS1.out.has; have f0 := RF1.out.cell 0 (by simp); have ff := RF1.out.free 0; have fh := RF1.out.has; simp only [List.getElem_cons_zero] at s0 f0; clear hown hgrow hblk o0 oh hWA)
      | fail)
    go_ret
    refine ⟨rfl, ?_, ?_, ?_, ?_⟩
    · rw [ST.out]
      refine ⟨N1.out, N2.out, z1, z2, z3', ?_, a1, c1, ?_, ?_, ?_⟩
      · have := (RF1.out.oth (o := 0) (v := .slice a1 (st.length + 1) c1) z3').set 0 (.bool (X == 0))
        rw [← ST.out, FV.out]
        exact this
      · have := ((RS1.out.set 0 (.slice a1 (st.length + 1) c1)).oth (o := 0) (v := .bool (X == 0)) z4)
        rw [List.length_append]
        exact this
      · have h1 := owns_set (o := 0) (x := .slice a1 (st.length + 1) c1) O1.out RS1.out.s (by decide)
        have h2 := owns_set (o := 0) (x := .bool (X == 0)) h1 (RF1.out.oth (o := 0) (v := .slice a1 (st.length + 1) c1) z3').s (by decide)
        rw [List.length_append, List.map_append, List.map_cons, List.map_nil, VX.out]
        exact h2
      · intro g hg hgL
        rw [List.length_append] at hg
        have hlt : g < w.heap.size := HL.out g hgL
        rcases b1.out with q | q
        · exact N3.out g (q ▸ hg) hgL
        · have e : (Value.slice a1 (st.length + [xb].length) c1).ownBlock = some WA.heap.size := q
          rw [hg] at e
          injection e with e
          have := gA.out.size
          omega
    · exact (((HG.out.trans gA.out).grown g1.out (fun k e => (OSa.out.lt k e).1)).setc z1).setc z2
    · intro g hg
      have hlt : g < w.heap.size := HL.out g hg
      have h1 : (w.heap[g]?) = WA.heap[g]? := (gA.out.below.block g hlt).symm
      have h2 := g1.out.block g (Nat.lt_of_lt_of_le hlt gA.out.size) (fun e => N3.out g e.symm hg)
      have k1 := (grownBy_set W1 BS 0 (.slice a1 (st.length + 1) c1))
      have k2 := (grownBy_set (W1.setCell ⟨BS, 0, none⟩ (.slice a1 (st.length + 1) c1)) BF 0 (.bool (X == 0)))
      have lt1 : g < W1.heap.size := Nat.lt_of_lt_of_le (Nat.lt_of_lt_of_le hlt gA.out.size) g1.out.size
      rw [k2.block g (Nat.lt_of_lt_of_le lt1 k1.size) (fun e => N2.out (by injection e with e; rw [← e]; exact hg)), k1.block g lt1 (fun e => N1.out (by injection e with e; rw [← e]; exact hg)), h2, h1]
    · have h1 := gA.out.size
      have h2 := g1.out.size
      simp only [size_set]
      omega
end Go.Proofs.YtenehghpmnajpaaGreatDoor

set_option linter.unusedVariables false
set_option linter.unusedSimpArgs false
namespace Go.Proofs.YtenehghpmnajpaaGreatDoor
open Go.RowKit
open Classical
/-- Some setting breaks none of the limits of a mask. -/
noncomputable def canL (l : List Clk) (ms : List Lmt) (m : BitVec 64) : Bool := decide (∃ s, SetOk l s ∧ bitsS l ms s &&& m = 0)
def lessM (m : BitVec 64) (i : Nat) : BitVec 64 := m &&& ~~~ (BitVec.twoPow 64 i)
noncomputable def leastGo (l : List Clk) (ms : List Lmt) : Nat → BitVec 64 × List Int
  | 0 => (BitVec.allOnes 64, [])
  | i + 1 => if canL l ms (lessM (leastGo l ms i).1 i) = true then ((leastGo l ms i).1, (leastGo l ms i).2 ++ [(i : Int)]) else (lessM (leastGo l ms i).1 i, (leastGo l ms i).2)
theorem lessM_get (m : BitVec 64) (i j : Nat) (hi : i < 64) : (lessM m i).getLsbD j = (m.getLsbD j && decide (j ≠ i)) := by
  unfold lessM
  rw [BitVec.getLsbD_and, BitVec.getLsbD_not, BitVec.getLsbD_twoPow]
  by_cases h : j < 64
  · by_cases e : j = i
    · subst e; simp [h]
    · have : ¬ i = j := fun q => e q.symm
      simp [h, e, this]
  · have : m.getLsbD j = false := BitVec.getLsbD_of_ge _ _ (by omega)
    rw [this]; simp
theorem and_zero {a b : BitVec 64} : a &&& b = 0 ↔ ∀ j, j < 64 → a.getLsbD j = true → b.getLsbD j = false := by
  constructor
  · intro h j hj ha
    have : (a &&& b).getLsbD j = false := by rw [h]; simp
    rw [BitVec.getLsbD_and, ha, Bool.true_and] at this
    exact this
  · intro h
    apply BitVec.eq_of_getLsbD_eq
    intro j hj
    rw [BitVec.getLsbD_and]
    cases ha : a.getLsbD j with
    | false => simp
    | true => rw [h j hj ha]; simp
theorem canL_mono {l : List Clk} {ms : List Lmt} {m m' : BitVec 64} (h : ∀ j, m'.getLsbD j = true → m.getLsbD j = true) (hc : canL l ms m = true) : canL l ms m' = true := by
  unfold canL at hc ⊢
  rw [decide_eq_true_iff] at hc ⊢
  obtain ⟨s, hs, hb⟩ := hc
  refine ⟨s, hs, and_zero.2 fun j hj ha => ?_⟩
  have := and_zero.1 hb j hj ha
  cases hm : m'.getLsbD j with
  | false => rfl
  | true => rw [h j hm] at this; cases this
structure LInv (l : List Clk) (ms : List Lmt) (i : Nat) (m : BitVec 64) (out : List Int) : Prop where
  hi : ∀ j, i ≤ j → j < 64 → m.getLsbD j = true
  lo : ∀ j, j < i → (m.getLsbD j = true ↔ (j : Int) ∈ out)
  bnd : ∀ k ∈ out, 0 ≤ k ∧ k < i
  asc : out.Pairwise (· < ·)
  no : canL l ms m = false
  each : ∀ k ∈ out, canL l ms (lessM m k.toNat) = true
theorem lInv_go {l : List Clk} {ms : List Lmt} (h0 : canL l ms (BitVec.allOnes 64) = false) : ∀ i, i ≤ 64 → LInv l ms i (leastGo l ms i).1 (leastGo l ms i).2 := by
  intro i
  induction i with
  | zero =>
    intro _
    exact ⟨fun j _ h => by show (BitVec.allOnes 64).getLsbD j = true; rw [BitVec.getLsbD_allOnes]; exact decide_eq_true h, fun j h => by omega, fun k h => by simp [leastGo] at h, by simp [leastGo], h0, fun k h => by simp [leastGo] at h⟩
  | succ i ih =>
    intro hi
    have H := ih (by omega)
    obtain ⟨m, hm⟩ : ∃ m, (leastGo l ms i).1 = m := ⟨_, rfl⟩
    obtain ⟨out, ho⟩ : ∃ out, (leastGo l ms i).2 = out := ⟨_, rfl⟩
    rw [hm, ho] at H
    simp only [leastGo, hm, ho]
    have hg := fun j => lessM_get m i j (by omega)
    cases hc : canL l ms (lessM m i) with
    | true =>
      simp only [if_true]
      refine ⟨fun j h1 h2 => H.hi j (by omega) h2, fun j hj => ?_, fun k hk => ?_, ?_, H.no, fun k hk => ?_⟩
      · rw [List.mem_append, List.mem_singleton]
        by_cases e : j = i
        · subst e; exact ⟨fun _ => .inr rfl, fun _ => H.hi j (Nat.le_refl _) (by omega)⟩
        · rw [H.lo j (by omega)]
          exact ⟨.inl, fun q => q.resolve_right (by omega)⟩
      · rcases List.mem_append.1 hk with hk | hk
        · have := H.bnd k hk; omega
        · have : k = i := by simpa using hk
          omega
      · rw [List.pairwise_append]
        refine ⟨H.asc, by simp, fun x hx y hy => ?_⟩
        have := H.bnd x hx
        have : y = i := by simpa using hy
        omega
      · rcases List.mem_append.1 hk with hk | hk
        · exact H.each k hk
        · have : k = i := by simpa using hk
          subst this
          rw [Int.toNat_natCast]; exact hc
    | false =>
      simp only [Bool.false_eq_true, if_false]
      refine ⟨fun j h1 h2 => ?_, fun j hj => ?_, fun k hk => ?_, H.asc, hc, fun k hk => ?_⟩
      · rw [hg j, H.hi j (by omega) h2]; simp; omega
      · rw [hg j]
        by_cases e : j = i
        · subst e
          simp
          intro q
          have := H.bnd _ q; omega
        · rw [← H.lo j (by omega)]; simp [e]
      · have := H.bnd k hk; omega
      · have hk2 := H.bnd k hk
        refine canL_mono (fun j hj => ?_) (H.each k hk)
        rw [lessM_get _ _ _ (by omega)] at hj ⊢
        rw [hg j] at hj
        simp only [Bool.and_eq_true] at hj ⊢
        exact ⟨hj.1.1, hj.2⟩
/-! What a mask says of limits -/
theorem bits_get (l : List Clk) (ms : List Lmt) (s : List Int) (hb : (allB l ms).length ≤ 64) (j : Nat) : (bitsS l ms s).getLsbD j = (decide (j < (allB l ms).length) && brk l ms s j) := bitAcc_get _ _ hb j
theorem own_iff (R : List Rt) (l : List Clk) (n : Nat) : OwnR R l ↔ ∀ b ∈ ownB n l, brokB b (rtAt R b.clock.toNat) = false := by
  have h := meet_iff R l []
  have e : allB l [] = ownB 0 l := by simp [allB, limsB]
  rw [e] at h
  have h2 : MeetR R l [] ↔ OwnR R l := ⟨fun q => q.1, fun q => ⟨q, fun j hj => by simp at hj⟩⟩
  rw [← h2, ← h]
  constructor
  · intro q b hb
    obtain ⟨i, hi, hh, rfl⟩ := mem_ownB.1 hb
    exact q ⟨((0 + i : Nat) : Int), i, l[i].low, l[i].high, true⟩ (mem_ownB.2 ⟨i, hi, hh, rfl⟩)
  · intro q b hb
    obtain ⟨i, hi, hh, rfl⟩ := mem_ownB.1 hb
    exact q ⟨((n + i : Nat) : Int), i, l[i].low, l[i].high, true⟩ (mem_ownB.2 ⟨i, hi, hh, rfl⟩)
theorem brk_lim {l : List Clk} {ms : List Lmt} {s : List Int} {j : Nat} (hj : j < ms.length) : brk l ms s j = !okIn (rtAt (rts l s) ms[j].clock.toNat) ms[j].low ms[j].high := by
  have h1 : (allB l ms)[j]? = some (limB j ms[j]) := by
    unfold allB
    rw [List.getElem?_append_left (by rw [limsB_len]; exact hj)]
    simp [limsB, List.getElem?_eq_getElem hj]
  unfold brk
  rw [h1]
  simp only [limB]
  cases e : rtAt (rts l s) ms[j].clock.toNat <;> simp [brokB, okIn]
theorem mask_of {l : List Clk} {ms : List Lmt} {s : List Int} {m : BitVec 64} (hb : (allB l ms).length ≤ 64) (ho : OwnR (rts l s) l) (h : ∀ j (hj : j < ms.length), m.getLsbD j = true → okIn (rtAt (rts l s) ms[j].clock.toNat) ms[j].low ms[j].high = true) : bitsS l ms s &&& m = 0 := by
  refine and_zero.2 fun j hj ha => ?_
  rw [bits_get l ms s hb, Bool.and_eq_true, decide_eq_true_iff] at ha
  obtain ⟨h1, h2⟩ := ha
  by_cases hl : j < ms.length
  · rw [brk_lim hl] at h2
    cases hm : m.getLsbD j with
    | false => rfl
    | true => rw [h j hl hm] at h2; cases h2
  · rw [brk_at h1] at h2
    have hm : (allB l ms)[j] ∈ ownB ms.length l := by
      have e : (allB l ms)[j] = (ownB ms.length l)[j - (limsB ms).length]'(by unfold allB at h1; rw [List.length_append] at h1; rw [limsB_len] at h1 ⊢; omega) := by
        unfold allB
        exact List.getElem_append_right (by rw [limsB_len]; omega)
      rw [e]; exact List.getElem_mem _
    rw [(own_iff _ l ms.length).1 ho _ hm] at h2; cases h2
theorem of_mask {l : List Clk} {ms : List Lmt} {s : List Int} {m : BitVec 64} (hb : (allB l ms).length ≤ 64) (hm : ∀ j, ms.length ≤ j → j < 64 → m.getLsbD j = true) (h : bitsS l ms s &&& m = 0) :
    OwnR (rts l s) l ∧ ∀ j (hj : j < ms.length), m.getLsbD j = true → okIn (rtAt (rts l s) ms[j].clock.toNat) ms[j].low ms[j].high = true := by
  have key := and_zero.1 h
  have hle : ms.length ≤ (allB l ms).length := by unfold allB; rw [List.length_append, limsB_len]; omega
  constructor
  · refine (own_iff _ l ms.length).2 fun b hbm => ?_
    obtain ⟨k, hk, rfl⟩ := List.mem_iff_getElem.1 hbm
    have hj : ms.length + k < (allB l ms).length := by unfold allB; rw [List.length_append, limsB_len]; omega
    have e : (allB l ms)[ms.length + k] = (ownB ms.length l)[k] := by
      have h := List.getElem?_append_right (l₁ := limsB ms) (l₂ := ownB ms.length l) (i := ms.length + k) (by rw [limsB_len]; omega)
      rw [limsB_len, Nat.add_sub_cancel_left] at h
      have h1 : (allB l ms)[ms.length + k]? = (ownB ms.length l)[k]? := h
      rw [List.getElem?_eq_getElem hj, List.getElem?_eq_getElem hk] at h1
      exact Option.some.inj h1
    cases hq : brokB (ownB ms.length l)[k] (rtAt (rts l s) (ownB ms.length l)[k].clock.toNat) with
    | false => rfl
    | true =>
      have h1 := key (ms.length + k) (by omega) (by rw [bits_get l ms s hb, decide_eq_true hj, Bool.true_and, brk_at hj, e]; exact hq)
      rw [hm _ (by omega) (by omega)] at h1; cases h1
  · intro j hj hmj
    cases hq : okIn (rtAt (rts l s) ms[j].clock.toNat) ms[j].low ms[j].high with
    | true => rfl
    | false =>
      have h1 := key j (by omega) (by rw [bits_get l ms s hb, decide_eq_true (show j < (allB l ms).length by omega), Bool.true_and, brk_lim hj, hq]; rfl)
      rw [hmj] at h1; cases h1
/-! The limits that are left -/
noncomputable def coreL (ms : List Lmt) (out : List Int) : List Lmt := out.map fun k => ms.getD k.toNat ⟨0, 0, 0⟩
theorem coreL_at {ms : List Lmt} {out : List Int} {x : Lmt} (hb : ∀ k ∈ out, 0 ≤ k ∧ k < (ms.length : Int)) : x ∈ coreL ms out ↔ ∃ j, ∃ hj : j < ms.length, (j : Int) ∈ out ∧ ms[j] = x := by
  unfold coreL
  rw [List.mem_map]
  constructor
  · rintro ⟨k, hk, rfl⟩
    have := hb k hk
    have hj : k.toNat < ms.length := by omega
    exact ⟨k.toNat, hj, by rw [Int.toNat_of_nonneg this.1]; exact hk, by rw [List.getD_eq_getElem?_getD, List.getElem?_eq_getElem hj]; rfl⟩
  · rintro ⟨j, hj, hm, rfl⟩
    exact ⟨j, hm, by rw [Int.toNat_natCast, List.getD_eq_getElem?_getD, List.getElem?_eq_getElem hj]; rfl⟩
end Go.Proofs.YtenehghpmnajpaaGreatDoor

set_option linter.unusedVariables false
set_option linter.unusedSimpArgs false
namespace Go.Proofs.YtenehghpmnajpaaGreatDoor
open Go.RowKit
open Classical
def RU (w : World) (b o : Nat) (x : BitVec 64) : Prop := w.cell? ⟨b, o, none⟩ = some (vU64 x)
theorem RU.mono : Mono RU := fun _ _ _ _ _ hg h => cell_gr hg h
theorem ru_of_owns {w : World} {base : Nat} {v : Value} {st : List (BitVec 64)} (h : w.ownsRow base 99 1 v st.length (st.map vU64)) : ∃ a c, v = .slice a st.length c ∧ SlOf 1 RU w a st := by
  rcases Nat.eq_zero_or_pos st.length with e | e
  · have : st = [] := List.eq_nil_of_length_eq_zero e
    subst this
    obtain ⟨a, c, e⟩ := owns_slice h
    exact ⟨a, c, e, SlOf.nil _ _ _ _⟩
  · obtain ⟨g, cap, e1, h1, _, hc⟩ := owns_cell h e
    refine ⟨_, cap, e1, fun k hk => ⟨g, 0, rfl, ?_⟩⟩
    unfold RU
    rw [Nat.zero_add, Nat.mul_one, hc k (by omega), List.getElem?_map, List.getElem?_eq_getElem hk]; rfl
theorem ofInt64 (A : BitVec 64) : BitVec.ofInt IntKind.u64.bits (A.toNat : Int) = A := by
  apply BitVec.eq_of_toNat_eq
  rw [BitVec.toNat_ofInt]
  show ((A.toNat : Int) % ((2 ^ 64 : Nat) : Int)).toNat = A.toNat
  have := A.isLt
  omega
theorem andNot_bits (A : BitVec 64) (i : Nat) (hi : i < 64) : bits BinOp.andNot IntKind.u64 (A.toNat : Int) (IntKind.u64.wrap (2 ^ i)) = ((lessM A i).toNat : Int) := by
  obtain ⟨p, h1, h2, h3⟩ : ∃ p : Nat, (2 : Int) ^ i = (p : Int) ∧ p < 18446744073709551616 ∧ (BitVec.twoPow 64 i).toNat = p := by
    have hp : (2 : Nat) ^ i < 2 ^ 64 := Nat.pow_lt_pow_right (by omega) hi
    exact ⟨2 ^ i, by push_cast; rfl, hp, by rw [BitVec.toNat_twoPow]; exact Nat.mod_eq_of_lt hp⟩
  rw [h1, wrap_u64 _ (by omega) (by omega)]
  unfold lessM
  obtain ⟨B, hB⟩ : ∃ B, BitVec.twoPow 64 i = B := ⟨_, rfl⟩
  rw [hB] at h3 ⊢
  have e3 : BitVec.ofInt IntKind.u64.bits (p : Int) = B := by rw [← h3]; exact ofInt64 B
  unfold bits
  simp only [ofInt64, e3]
  obtain ⟨C, hC⟩ : ∃ C : BitVec 64, A &&& ~~~B = C := ⟨_, rfl⟩
  have hl := C.isLt
  show IntKind.u64.wrap ((A &&& ~~~B).toNat : Int) = ((A &&& ~~~B).toNat : Int)
  rw [hC]
  exact wrap_u64 _ (by omega) (by omega)
theorem and_bits (A B : BitVec 64) : bits BinOp.and IntKind.u64 (A.toNat : Int) (B.toNat : Int) = ((A &&& B).toNat : Int) := by
  unfold bits
  simp only [ofInt64]
  obtain ⟨C, hC⟩ : ∃ C : BitVec 64, A &&& B = C := ⟨_, rfl⟩
  have hl := C.isLt
  show IntKind.u64.wrap ((A &&& B).toNat : Int) = ((A &&& B).toNat : Int)
  rw [hC]
  exact wrap_u64 _ (by omega) (by omega)
set_option maxHeartbeats 1000000 in
theorem least2_any (x m : BitVec 64) (O : Nat) (w : World) (c : w.cell? ⟨O, 0, none⟩ = some (vU64 m)) :
    Calls Tryz.prog 66 #[vU64 x, .pointer (some ⟨O, 0, none⟩)] w (Grows w (.bool (decide (x &&& m = 0)))) := by
  have hh := has_of_cell c
  have AB := Lib.hid (and_bits x m)
  have ZB := Lib.hid (bits_eq0 (x &&& m))
  unfold vU64 at c ⊢
  obtain ⟨X, hX⟩ : ∃ X : Int, (x.toNat : Int) = X := ⟨_, rfl⟩
  obtain ⟨M, hM⟩ : ∃ M : Int, (m.toNat : Int) = M := ⟨_, rfl⟩
  rw [hX] at AB ⊢
  rw [hM] at c AB
  obtain ⟨Y, hY⟩ : ∃ Y : Int, bits BinOp.and IntKind.u64 X M = Y := ⟨_, rfl⟩
  have EY : Hid ((Y == 0) = decide (x &&& m = 0)) := Lib.hid (by rw [← hY, AB.out, ZB.out])
  clear AB ZB hX hM
  go_enter Tryz.func66, Tryz.ntmps66
  go_wp2_with fail
  go_ret
  exact ⟨ret_bool EY.out, Gr.refl _⟩
set_option maxHeartbeats 1000000 in
theorem indexU_any (st : List (BitVec 64)) (a : Option Addr) (cap : Nat) (m : BitVec 64) (O : Nat) (w : World) (hx : SlOf 1 RU w a st) (fx : st.length ≤ 100000) (c : w.cell? ⟨O, 0, none⟩ = some (vU64 m)) :
    Calls Tryz.prog 111 #[.slice a st.length cap, .func (.func 66) #[] #[.pointer (some ⟨O, 0, none⟩)]] w fun e w' => ∃ y : Int, e = .returned (.int .i64 y) ∧ (0 ≤ y ↔ ∃ x ∈ st, x &&& m = 0) ∧ Gr w w' := by
  have HX := Lib.hid hx
  have HC := Lib.hid c
  clear hx c
  go_enter Tryz.func111, Tryz.ntmps111
  go_wp2
  go_loopw [8] (fun i wr => ∃ k : Nat, k ≤ st.length ∧ i = .int .i64 k ∧ (∀ j (h : j < st.length), j < k → ¬ st[j] &&& m = 0) ∧ Gr w wr) (fun i _ => st.length - (intOf i).toNat)
  case atStart => exact ⟨0, Nat.zero_le _, rfl, fun j _ h => absurd h (by omega), Gr.refl _⟩
  case round =>
    obtain ⟨k, hk, rfl, hall, hg⟩ := hrel
    have HA := Lib.hid hall
    have HG := Lib.hid hg
    clear hall hg
    obtain ⟨wo, rfl⟩ : ∃ wo : World, wo = wr := ⟨_, rfl⟩
    by_cases hlt : k < st.length
    · obtain ⟨b, o, rfl, d0⟩ := (HX.out.gr RU.mono HG.out).one k hlt
      unfold RU at d0
      have hcall := Lib.hid (least2_any st[k] m O wo (cell_gr HG.out HC.out))
      have hh := has_of_cell d0
      have k2 : (k : Int) < st.length := by omega
      unfold vU64 at d0 hcall
      by_cases hq : st[k] &&& m = 0
      · have hcall' := Lib.hid hcall.out
        rw [decide_eq_true hq] at hcall'
        have Q := Lib.hid hq
        clear hq hcall
        go_wp2_with fail
        refine hcall'.out.mono ?_
        rintro e w' ⟨rfl, hg'⟩
        have G' := Lib.hid (HG.out.trans hg')
        clear hg'
        go_wp2_with fail
        go_ret
        exact ⟨k, rfl, ⟨fun _ => ⟨_, List.getElem_mem hlt, Q.out⟩, fun _ => by omega⟩, G'.out⟩
      · have hcall' := Lib.hid hcall.out
        rw [decide_eq_false hq] at hcall'
        have Q := Lib.hid hq
        clear hq hcall
        go_wp2_with fail
        refine hcall'.out.mono ?_
        rintro e w' ⟨rfl, hg'⟩
        have G' := Lib.hid (HG.out.trans hg')
        clear hg'
        go_wp2_with fail
        go_roundw
        case rel =>
          refine ⟨k + 1, by omega, by go_num, fun j h1 hj => ?_, G'.out⟩
          by_cases e : j = k
          · subst e; exact Q.out
          · exact HA.out j h1 (by omega)
        case measure => simp [intOf]; omega
    · go_wp2_with fail
      go_ret
      refine ⟨-1, rfl, ⟨fun h => by omega, ?_⟩, HG.out⟩
      rintro ⟨x, hx, hz⟩
      obtain ⟨j, hj, rfl⟩ := List.getElem_of_mem hx
      exact absurd hz (HA.out j hj (by omega))
theorem containsU_any (st : List (BitVec 64)) (a : Option Addr) (cap : Nat) (m : BitVec 64) (O : Nat) (w : World) (hx : SlOf 1 RU w a st) (fx : st.length ≤ 100000) (c : w.cell? ⟨O, 0, none⟩ = some (vU64 m)) :
    Calls Tryz.prog 65 #[.slice a st.length cap, .func (.func 66) #[] #[.pointer (some ⟨O, 0, none⟩)]] w (Grows w (.bool (decide (∃ x ∈ st, x &&& m = 0)))) := by
  have IX := Lib.hid (indexU_any st a cap m O w hx fx c)
  clear hx c
  go_enter Tryz.func65, Tryz.ntmps65
  go_wp2_with fail
  refine IX.out.mono ?_
  rintro e w' ⟨y, rfl, hy, hg⟩
  have HY := Lib.hid hy
  have G := Lib.hid hg
  clear hy hg IX
  go_wp2_with fail
  go_ret
  exact ⟨ret_bool (by rw [decide_eq_decide]; exact HY.out), G.out⟩
/-- What is seen of all settings. -/
noncomputable def seenL (l : List Clk) (ms : List Lmt) : List (BitVec 64) := (List.range (prodC l)).map fun j => bitsS l ms (setN l j)
theorem seen_can {l : List Clk} {ms : List Lmt} (h1 : ∀ c ∈ l, 1 ≤ c.choices.length) (m : BitVec 64) : decide (∃ x ∈ seenL l ms, x &&& m = 0) = canL l ms m := by
  unfold canL
  rw [decide_eq_decide]
  constructor
  · rintro ⟨x, hx, hz⟩
    obtain ⟨j, hj, rfl⟩ := List.mem_map.1 hx
    exact ⟨setN l j, (setN_ok h1 (List.mem_range.1 hj)).1, hz⟩
  · rintro ⟨s, hs, hz⟩
    have hb := num_bound hs
    refine ⟨bitsS l ms s, List.mem_map.2 ⟨(num l s).toNat, List.mem_range.2 (by omega), ?_⟩, hz⟩
    rw [setN_eq hs (by omega)]
theorem seen_free {l : List Clk} {ms : List Lmt} (h1 : ∀ c ∈ l, 1 ≤ c.choices.length) (hb : (allB l ms).length ≤ 64) : freeL (seenL l ms) = decide (∃ s, SetOk l s ∧ meetS l ms s = true) := by
  unfold freeL
  rw [Bool.eq_iff_iff, List.any_eq_true, decide_eq_true_iff]
  constructor
  · rintro ⟨x, hx, hz⟩
    obtain ⟨j, hj, rfl⟩ := List.mem_map.1 hx
    exact ⟨setN l j, (setN_ok h1 (List.mem_range.1 hj)).1, by rw [meetS_bits l ms _ hb]; exact hz⟩
  · rintro ⟨s, hs, hz⟩
    have hbn := num_bound hs
    refine ⟨bitsS l ms s, List.mem_map.2 ⟨(num l s).toNat, List.mem_range.2 (by omega), ?_⟩, by rw [meetS_bits l ms s hb] at hz; exact hz⟩
    rw [setN_eq hs (by omega)]
theorem leastGo_len (l : List Clk) (ms : List Lmt) (i : Nat) : (leastGo l ms i).2.length ≤ i := by
  induction i with
  | zero => simp [leastGo]
  | succ i ih =>
    simp only [leastGo]
    split
    · rw [List.length_append]; simp; omega
    · simp only; omega
/-- Limits that cannot be met together, or that there are none. -/
def GivesLeast (w : World) (l : List Clk) (ms : List Lmt) (e : Ending) (w' : World) : Prop :=
  Gr w w' ∧ (((∃ s, SetOk l s ∧ meetS l ms s = true) ∧ e = .returned (.tuple #[.slice none 0 0, .int .i64 8])) ∨
    ((∀ s, SetOk l s → meetS l ms s = false) ∧ ∃ a c, e = .returned (.tuple #[.slice a (leastGo l ms ms.length).2.length c, .int .i64 0]) ∧ w'.ownsRow w.heap.size 3 1 (.slice a (leastGo l ms ms.length).2.length c) (leastGo l ms ms.length).2.length (nums (leastGo l ms ms.length).2)))
set_option maxRecDepth 100000 in
set_option maxHeartbeats 2000000 in
theorem pLeast_any (l : List Clk) (ms : List Lmt) (al am : Option Addr) (cl cm : Nat) (w : World) (henv : Env w l ms al am) :
    Calls Tryz.prog 20 #[.slice al l.length cl, .slice am ms.length cm] w (GivesLeast w l ms) := by
  obtain ⟨_, okC, prC, _⟩ := cchk_zero henv.chk
  have hl := small_len (cchk_zero henv.chk).1
  have hml := henv.lims.1
  have hb : (allB l ms).length ≤ 64 := by have := allB_len l ms; omega
  have BG := Lib.hid (begin17_any l ms al am cl cm w henv)
  have HE := Lib.hid henv
  have HC1 := Lib.hid (allOk_cho okC)
  obtain ⟨i0, hi, hz0, hz1, hz2⟩ := info_parts infoInt
  clear henv okC
  go_enter Tryz.func20, Tryz.ntmps20
  go_wp2_with fail
  refine BG.out.mono ?_
  rintro e w1 ⟨rfl, hg1⟩
  have G1 := Lib.hid hg1
  clear hg1 BG
  go_wp2_with fail
  obtain ⟨BS, hBS⟩ : ∃ BS : Nat, Hid (w1.heap.size = BS) := ⟨_, Lib.hid rfl⟩
  obtain ⟨W2, hW2⟩ : ∃ W2 : World, Hid (W2 = ((w1.alloc (.cells #[.slice none 0 0] 103)).alloc (.cells #[.bool false] 4))) := ⟨_, Lib.hid rfl⟩
  have RS : Hid (Row W2 BS 103 [.slice none 0 0]) := Lib.hid (by rw [hW2.out, ← hBS.out]; exact (Row.new w1 #[.slice none 0 0] _).gr ((Gr.refl _).alloc _))
  have RF : Hid (Row W2 (BS + 1) 4 [.bool false]) := Lib.hid (by
    rw [hW2.out, ← hBS.out]
    exact row_new' (w1.alloc (.cells #[.slice none 0 0] 103)) #[.bool false] 4 _ (by simp))
  have G2 : Hid (Gr w W2) := Lib.hid (by rw [hW2.out]; exact (G1.out.alloc _).alloc _)
  have z2 : Hid (W2.heap.size = BS + 2) := Lib.hid (by rw [hW2.out, ← hBS.out]; simp)
  have wb : Hid (w.heap.size ≤ BS) := Lib.hid (by have := hBS.out; have := G1.out.size; omega)
  have CV := Lib.hid (visitM_any (LieL BS (BS + 1) w) (stepL l ms) (fun _ => true) l ms al am cl cm BS (BS + 1) [] w W2 [] HE.out G2.out (fun b hb => by cases hb) (lieL_ok BS (BS + 1) w)
    (fun w' L hg hL => ⟨(fun q => by
      rcases hL BS q with h | h
      · cases h
      · have := z2.out; omega), (fun q => by
      rcases hL (BS + 1) q with h | h
      · cases h
      · have := z2.out; omega), wb.out, by have := wb.out; omega, by omega, RF.out.gr hg, none, 0, RS.out.gr hg, World.ownsRow_nil _ _ _ _, fun g hg => by cases hg⟩) (seeM l ms BS (BS + 1) w HE.out.chk))
  rw [hBS.out]
  rw [hW2.out] at CV
  clear RS RF
  refine CV.out.mono ?_
  rintro e w3 ⟨rfl, k, hk1, hk2, hI, hend, _, hg3, _, _⟩
  have hk : k = prodC l := by
    rcases hend with h | h
    · exact h
    · cases h
  subst hk
  rw [stN_stepL] at hI
  obtain ⟨_, _, _, _, hne, rf, a, c, rs, os, _⟩ := hI
  obtain ⟨st, hst⟩ : ∃ st, seenL l ms = st := ⟨_, rfl⟩
  have hst' : (List.range (prodC l)).map (fun j => bitsS l ms (setN l j)) = st := hst
  rw [hst'] at rf rs os
  have SL : Hid (st.length ≤ 100000) := Lib.hid (by rw [← hst', List.length_map, List.length_range]; omega)
  have CAN : Hid (∀ m, decide (∃ x ∈ st, x &&& m = 0) = canL l ms m) := Lib.hid (fun m => by rw [← hst]; exact seen_can HC1.out m)
  have FRE : Hid (freeL st = decide (∃ s, SetOk l s ∧ meetS l ms s = true)) := Lib.hid (by rw [← hst]; exact seen_free HC1.out hb)
  have G3 := Lib.hid hg3
  have f0 := rf.cell 0 (by simp)
  have fh := rf.has
  simp only [List.getElem_cons_zero] at f0
  clear hst hst' hend CV hg3
  by_cases hex : ∃ s, SetOk l s ∧ meetS l ms s = true
  · have EX := Lib.hid hex
    rw [FRE.out, decide_eq_true hex] at f0
    clear hex rf rs os
    go_wp2_with fail
    go_ret2
    exact ⟨G3.out, .inl ⟨EX.out, rfl⟩⟩
  · have NO : Hid (∀ s, SetOk l s → meetS l ms s = false) := Lib.hid (fun s hs => by
      cases hm : meetS l ms s with
      | false => rfl
      | true => exact absurd ⟨s, hs, hm⟩ hex)
    rw [FRE.out, decide_eq_false hex] at f0
    have RSW := Lib.hid rs
    obtain ⟨_, _, ea, sr⟩ := ru_of_owns os
    cases ea
    have SR := Lib.hid sr
    clear hex rf rs os sr
    go_wp2_with fail
    go_loopw [9, 10, 26] (fun s9 s10 s26 wr => ∃ (i : Nat) (ao : Option Addr) (co : Nat), i ≤ ms.length ∧ s26 = .int .i64 (i : Int) ∧ s9 = vU64 (leastGo l ms i).1 ∧ s10 = .slice ao (leastGo l ms i).2.length co ∧ wr.ownsRow w3.heap.size 3 1 (.slice ao (leastGo l ms i).2.length co) (leastGo l ms i).2.length (nums (leastGo l ms i).2) ∧ Gr w3 wr) (fun _ _ s26 _ => ms.length - (intOf s26).toNat)
    case atStart => exact ⟨0, none, 0, Nat.zero_le _, rfl, rfl, rfl, World.ownsRow_nil _ _ _ _, Gr.refl _⟩
    case round =>
      obtain ⟨i, ao, co, hil, rfl, rfl, rfl, hoo, hg⟩ := hrel
      have OO := Lib.hid hoo
      have GG := Lib.hid hg
      clear hoo hg
      by_cases hlt : i < ms.length
      · have i2 : (i : Int) < ms.length := by omega
        have LG := Lib.hid (show leastGo l ms (i + 1) = if canL l ms (lessM (leastGo l ms i).1 i) = true then ((leastGo l ms i).1, (leastGo l ms i).2 ++ [(i : Int)]) else (lessM (leastGo l ms i).1 i, (leastGo l ms i).2) from rfl)
        have ol := leastGo_len l ms i
        obtain ⟨m, hm⟩ : ∃ m, (leastGo l ms i).1 = m := ⟨_, rfl⟩
        obtain ⟨out, ho⟩ : ∃ out, (leastGo l ms i).2 = out := ⟨_, rfl⟩
        rw [hm, ho] at LG
        rw [ho] at OO ol
        have AB := Lib.hid (andNot_bits m i (by omega))
        have MV := Lib.hid (show vU64 m = .int .u64 (m.toNat : Int) from rfl)
        rw [hm, ho]
        unfold vU64
        obtain ⟨MT, hMT⟩ : ∃ MT : Int, (m.toNat : Int) = MT := ⟨_, rfl⟩
        rw [hMT] at AB MV ⊢
        obtain ⟨Y, hY⟩ : ∃ Y : Int, bits BinOp.andNot IntKind.u64 MT (IntKind.u64.wrap (2 ^ i)) = Y := ⟨_, rfl⟩
        have VY : Hid (vU64 (lessM m i) = .int .u64 Y) := Lib.hid (by unfold vU64; rw [← AB.out, hY])
        obtain ⟨O9, hO9⟩ : ∃ O9 : Nat, Hid (wr.heap.size = O9) := ⟨_, Lib.hid rfl⟩
        obtain ⟨WA, hWA⟩ : ∃ WA : World, Hid (WA = wr.alloc (.cells #[.int .u64 Y] 99)) := ⟨_, Lib.hid rfl⟩
        have gA : Hid (Gr w3 WA) := Lib.hid (by rw [hWA.out]; exact GG.out.alloc _)
        have ga : Hid (Gr wr WA) := Lib.hid (by rw [hWA.out]; exact (Gr.refl _).alloc _)
        have CO : Hid (WA.cell? ⟨O9, 0, none⟩ = some (vU64 (lessM m i))) := Lib.hid (by
          rw [VY.out]
          have := (Row.new wr #[.int .u64 Y] 99).cell 0 (by simp)
          rw [← hWA.out, hO9.out] at this
          exact this)
        have s0 := (RSW.out.gr GG.out).cell 0 (by simp)
        have sh := has_of_cell s0
        simp only [List.getElem_cons_zero] at s0
        have CT := Lib.hid (containsU_any st a c (lessM m i) O9 WA (SR.out.gr RU.mono gA.out) SL.out CO.out)
        rw [CAN.out] at CT
        have OOA := Lib.hid (Gr.owns OO.out ga.out)
        clear hm ho AB hMT
        cases hc : canL l ms (lessM m i) with
        | true =>
          rw [hc] at CT LG
          have LG1 : Hid (leastGo l ms (i + 1) = (m, out ++ [(i : Int)])) := Lib.hid (by rw [LG.out]; simp)
          clear hc LG
          go_wp2_with fail
          rw [← hWA.out, hO9.out]
          refine CT.out.mono ?_
          rintro e w5 ⟨rfl, hg5⟩
          have G5 := Lib.hid (gA.out.trans hg5)
          have O5 := Lib.hid (Gr.owns OOA.out hg5)
          obtain ⟨N9, hN9⟩ : ∃ N9 : Nat, Hid (w5.heap.size = N9) := ⟨_, Lib.hid rfl⟩
          obtain ⟨W6, hW6⟩ : ∃ W6 : World, Hid (W6 = w5.alloc (.cells #[.int .i64 (i : Int)] 3)) := ⟨_, Lib.hid rfl⟩
          have g6 : Hid (Gr w5 W6) := Lib.hid (by rw [hW6.out]; exact (Gr.refl _).alloc _)
          have O6 := Lib.hid (Gr.owns O5.out g6.out)
          have CC : Hid (∀ j u, ([.int .i64 (i : Int)] : List Value)[j]? = some u → W6.cell? ((⟨N9, 0, none⟩ : Addr).add j) = some u) := Lib.hid (by
            have := row_cells (Row.new w5 #[.int .i64 (i : Int)] 3)
            rw [← hW6.out, hN9.out] at this
            exact this)
          have one : Hid (∀ u ∈ ([.int .i64 (i : Int)] : List Value), u.oneCell' = true) := Lib.hid (fun u hu => by rw [List.mem_singleton.1 hu]; rfl)
          have base := Lib.hid (G5.out.trans g6.out).size
          clear hg5 CT s0 sh
          go_wp2_with (first
            | (at_builtin; rw [← hW6.out, hN9.out]; refine wpList_append_gets _ rfl _ _ 22 rfl w3.heap.size 3 i0 (.int .i64 0) 1 8 Tryz.underlying22 hi hz0 hz1 hz2 rfl (by decide) (.slice ao out.length co) out.length (nums out) rfl O6.out (some ⟨N9, 0, none⟩) 1 1 [.int .i64 (i : Int)] rfl ⟨rfl, fun _ => ⟨_, rfl, CC.out⟩⟩ one.out (by unfold maxLen; omega) (by omega) base.out ?_; intro v' W7 hown hgrow hblk; obtain ⟨a7, c7, rfl⟩ := owns_slice hown; have O7 := Lib.hid hown; have G7 := Lib.hid ((G5.out.trans g6.out).grown hgrow (fun k e => (O6.out.lt k e).1)); clear hown hgrow hblk)
            | fail)
          go_roundw
          case rel =>
            refine ⟨i + 1, a7, c7, by omega, by go_num, ?_, ?_, ?_, G7.out⟩
            · rw [LG1.out]; exact MV.out.symm
            · rw [LG1.out]; simp
            · rw [LG1.out]
              have := O7.out
              simpa [nums] using this
          case measure => simp [intOf]; omega
        | false =>
          rw [hc] at CT LG
          have LG1 : Hid (leastGo l ms (i + 1) = (lessM m i, out)) := Lib.hid (by rw [LG.out]; simp)
          clear hc LG
          go_wp2_with fail
          rw [← hWA.out, hO9.out]
          refine CT.out.mono ?_
          rintro e w5 ⟨rfl, hg5⟩
          have G5 := Lib.hid (gA.out.trans hg5)
          have O5 := Lib.hid (Gr.owns OOA.out hg5)
          have c5 := cell_gr hg5 CO.out
          rw [VY.out] at c5
          have h5 := has_of_cell c5
          clear hg5 CT s0 sh
          go_wp2_with fail
          go_roundw
          case rel =>
            refine ⟨i + 1, ao, co, by omega, by go_num, ?_, ?_, ?_, G5.out⟩
            · rw [LG1.out]; exact VY.out.symm
            · rw [LG1.out]
            · rw [LG1.out]; exact O5.out
          case measure => simp [intOf]; omega
      · have hi' : i = ms.length := by omega
        subst hi'
        have OF := Lib.hid (owns_low OO.out G3.out.size)
        have GF := Lib.hid (G3.out.trans GG.out)
        clear OO GG
        go_wp2_with fail
        go_ret2
        exact ⟨GF.out, .inr ⟨NO.out, ao, co, rfl, OF.out⟩⟩
end Go.Proofs.YtenehghpmnajpaaGreatDoor

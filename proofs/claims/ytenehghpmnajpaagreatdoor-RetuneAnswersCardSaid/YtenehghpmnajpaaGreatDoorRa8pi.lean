/- Lemmas and contracts for the proof of RetuneAnswers (several texts in one, printed by wip/tools/pack.py): Kn. -/
import Derived.Test.YtenehghpmnajpaaGreatDoorRa8ph
set_option maxRecDepth 100000
set_option maxHeartbeats 16000000

/-! Contract of space.each with the function value of reach, for whatever that does (printed by wip/tools/each.py). -/
set_option linter.unusedVariables false
set_option linter.unusedSimpArgs false
namespace Go.Proofs.YtenehghpmnajpaaGreatDoor
open Go.RowKit
open Classical
def VisitR {σ : Type} (I : Lies σ) (step : σ → Nbr → σ) (l : List Clk) (cal : List Int → Bool) (s : List Int) (c1 c2 : Nat) (w0 : World) : Prop :=
  ∀ (t : Nbr) (st : σ) (w : World) (L : List Nat), t ∈ nbS l cal s → Gr w0 w → I st w L → (∀ b ∈ L, Has w b) →
    Calls Tryz.prog 119 #[.agg #[.int .i64 1, .int .i64 t.1, .int .i64 t.2.1], .int .i64 (num l t.2.2), .pointer (some ⟨c1, 0, none⟩), .pointer (some ⟨c2, 0, none⟩)] w fun e w' => e = .returned (.tuple #[]) ∧ I (step st t) w' L ∧ Gr w0 w' ∧ (∀ b ∈ L, w'.heap[b]? = w.heap[b]?) ∧ w.heap.size ≤ w'.heap.size
theorem eachR_any {σ : Type} (I : Lies σ) (step : σ → Nbr → σ) (l : List Clk) (ms : List Lmt) (s : List Int) (al am : Option Addr) (cl cm BK c1 c2 : Nat) (L0 : List Nat) (w0 w : World) (st : σ)
    (henv : Env w0 l ms al am) (hg0 : Gr w0 w) (hset : SetOk l s) (hk : Kn w BK l (calS l ms)) (hbk : w0.heap.size ≤ BK) (hL : ∀ b ∈ L0, Has w b) (hBK : BK ∈ L0) (hI : LiesOk I)
    (hst : ∀ w1 L, Gr w w1 → (∀ b ∈ L, b ∈ L0 ∨ w.heap.size ≤ b) → I st w1 L) (hv : VisitR I step l (calS l ms) s c1 c2 w0) :
    Calls Tryz.prog 82 #[spV l ms al am cl cm BK, .int .i64 (num l s), .func (.func 119) #[] #[.pointer (some ⟨c1, 0, none⟩), .pointer (some ⟨c2, 0, none⟩)]] w fun e w' =>
      e = .returned (.tuple #[]) ∧ I ((nbS l (calS l ms) s).foldl step st) w' L0 ∧ Gr w0 w' ∧ Kn w' BK l (calS l ms) ∧ (∀ b ∈ L0, b ≠ BK → w'.heap[b]? = w.heap[b]?) ∧ w.heap.size ≤ w'.heap.size := by
  obtain ⟨nb, _, _, _⟩ := cchk_zero henv.chk
  have hl := small_len nb
  have hsl : s.length = l.length := hset.1
  have NB := Lib.hid nb
  have HE := Lib.hid henv
  have HG0 := Lib.hid hg0
  have HT := Lib.hid hset
  have HL := Lib.hid hL
  have HB := Lib.hid hBK
  have HI := Lib.hid hI
  have HS := Lib.hid hst
  have HV := Lib.hid hv
  have hbk' := Lib.hid hbk
  have HK := Lib.hid hk
  obtain ⟨XB, hXB⟩ : ∃ XB : Nat, Hid (w.heap.size = XB) := ⟨_, Lib.hid rfl⟩
  obtain ⟨n, hn⟩ : ∃ n, num l s = n := ⟨_, rfl⟩
  obtain ⟨W1, hW1⟩ : ∃ W1 : World, Hid (W1 = w.alloc (.cells #[.slice al l.length cl, .slice am ms.length cm, .map (some BK)] 127)) := ⟨_, Lib.hid rfl⟩
  have G1 : Hid (Gr w W1) := Lib.hid (by rw [hW1.out]; exact (Gr.refl _).alloc _)
  have X1 : Hid (Row W1 XB 127 [.slice al l.length cl, .slice am ms.length cm, .map (some BK)]) := Lib.hid (by rw [hW1.out, ← hXB.out]; exact Row.new w _ _)
  have z1 : Hid (W1.heap.size = w.heap.size + 1) := Lib.hid (by rw [hW1.out]; simp)
  have ST : Hid (Calls Tryz.prog 85 #[.agg #[.slice al l.length cl, .slice am ms.length cm, .map (some BK)], .int .i64 n] W1 (fun e w' => ∃ SB, e = .returned (.slice (some ⟨SB, 0, none⟩) l.length l.length) ∧ Row w' SB 3 (nums s) ∧ W1.heap.size ≤ SB ∧ Gr W1 w')) := Lib.hid (by
    rw [← hn]
    exact spSet_any l s al am cl ms.length cm (.map (some BK)) W1 (clks_gr henv.clks (hg0.trans G1.out)) henv.chk hset)
  have hGW := Lib.hid (show Gr w W1 from G1.out)
  rw [hn]
  clear nb henv hg0 hset hL hBK hI hst hv hbk hk hn
  go_enter Tryz.func82, Tryz.ntmps82
  go_wp2_with fail
  rw [← hW1.out]
  refine ST.out.mono ?_
  rintro e W2 ⟨SB, rfl, hr, hb, hg⟩
  rw [hXB.out]
  have sb : Hid (w.heap.size ≤ SB) := Lib.hid (by have := z1.out; omega)
  have xs : Hid (XB ≠ SB) := Lib.hid (by have := z1.out; have := hXB.out; omega)
  have xb : Hid (w.heap.size ≤ XB) := Lib.hid (by have := hXB.out; omega)
  have s0 : Hid (w0.heap.size ≤ SB) := Lib.hid (Nat.le_trans HG0.out.size sb.out)
  have hE : EI I w0 w l ms al am cl cm BK XB SB L0 st W2 s :=
    { row := hr, box := X1.out.gr hg, kn := HK.out.gr (G1.out.trans hg),
       st := HS.out W2 _ (G1.out.trans hg) (fun b hb => by
         rcases List.mem_cons.1 hb with e | hb
         · subst e; exact .inr xb.out
         · rcases List.mem_cons.1 hb with e | hb
           · subst e; exact .inr sb.out
           · exact .inl hb),
       gr := HG0.out.trans (G1.out.trans hg),
       keep := fun b hb _ => (G1.out.trans hg).below.block b (HL.out b hb),
       size := (G1.out.trans hg).size }
  have E2 := Lib.hid hE
  have x0 := hE.box.cell 0 (by simp)
  simp only [List.getElem_cons_zero] at x0
  have xh := hE.box.has
  clear hE hr hb hg ST X1 G1 hGW HK HS
  go_wp2_with fail
  clear x0 xh
  go_loopw [18] (fun i wr => ∃ k : Nat, k ≤ l.length ∧ i = .int .i64 k ∧ EI I w0 w l ms al am cl cm BK XB SB L0 ((nbTo l (calS l ms) s k).foldl step st) wr s) (fun i _ => l.length - (intOf i).toNat)
  case atStart => exact ⟨0, Nat.zero_le _, rfl, E2.out⟩
  case round =>
    clear E2
    obtain ⟨i, hi, rfl, hE⟩ := hrel
    obtain ⟨wo, rfl⟩ : ∃ wo : World, wo = wr := ⟨_, rfl⟩
    have EI1 := Lib.hid hE
    by_cases hlt : i < l.length
    · have hls : i < s.length := by omega
      obtain ⟨b, o, rfl, ⟨d0, _⟩, ⟨ap, cp, d1, _⟩, ⟨ac, cc, d2, d2l, d2f, _⟩, ⟨d3, _⟩, ⟨d4, _⟩⟩ := clks_gr HE.out.clks hE.gr i hlt
      have e0 := hE.row.iat i hls
      have rh := hE.row.has
      have i2 : (i : Int) < l.length := by omega
      obtain ⟨fp, fc⟩ := small_at NB.out hlt
      unfold Fit at d2f
      have KO : Hid (kOf l i = (l[i].choices.length : Int)) := Lib.hid (kOf_at hlt)
      have SO : Hid (sOf s i = s[i]) := Lib.hid (sOf_at hls)
      clear hE
      go_wp2_with fail
      obtain ⟨W3, hW3⟩ : ∃ W3 : World, Hid (W3 = wo.alloc (.cells #[.int .i64 l[i].kind, .slice ap l[i].parents.length cp, .slice ac l[i].choices.length cc, .int .i64 l[i].low, .int .i64 l[i].high] 79)) := ⟨_, Lib.hid rfl⟩
      rw [← hW3.out]
      have E3 := Lib.hid (EI1.out.grow HI.out HL.out (w' := W3) (by rw [hW3.out]; exact (Gr.refl _).alloc _))
      clear hW3 EI1 d0 d1 d2 d3 d4 e0 rh
      go_loopw [30] (fun j wr => ∃ k : Nat, k ≤ l[i].choices.length ∧ j = .int .i64 k ∧ ∃ x, EI I w0 w l ms (some ⟨b, o, none⟩) am cl cm BK XB SB L0 ((nbTo l (calS l ms) s i ++ nbRow (calS l ms) s i k).foldl step st) wr (s.set i x)) (fun j _ => l[i].choices.length - (intOf j).toNat)
      case atStart => exact ⟨0, Nat.zero_le _, rfl, s[i], by have := E3.out; simpa [nbRow] using this⟩
      case round =>
        clear E3
        obtain ⟨k, hk, rfl, x, hE⟩ := hrel
        have e0 := hE.row.cell i (by rw [nums_len, List.length_set]; exact hls)
        have f0 := hE.row.free i
        have rh := hE.row.has
        have E4 := Lib.hid hE
        by_cases hlk : k < l[i].choices.length
        · have k2 : (k : Int) < l[i].choices.length := by omega
          have hset2 : SetOk l (s.set i (k : Int)) := HT.out.set hlt (by omega) (by rw [KO.out]; exact k2)
          have E5' := E4.out.set HI.out HL.out sb.out xs.out s0.out HB.out i (k : Int)
          rw [List.set_set] at E5'
          have E5 := Lib.hid E5'
          have T2 := Lib.hid hset2
          have x0 := E5'.box.cell 0 (by simp)
          have x1 := E5'.box.cell 1 (by simp)
          have x2 := E5'.box.cell 2 (by simp)
          simp only [List.getElem_cons_zero, List.getElem_cons_succ] at x0 x1 x2
          have xh := E5'.box.has
          have NM := number_any l (s.set i (k : Int)) (some ⟨b, o, none⟩) (some ⟨SB, 0, none⟩) am cl l.length ms.length cm (.map (some BK)) _ (clks_gr HE.out.clks E5'.gr) (E5'.row.s.slI (setOk_wide HE.out.chk hset2)) HE.out.chk hset2
          rw [hset2.1] at NM
          obtain ⟨m, hm⟩ : ∃ m, num l (s.set i (k : Int)) = m := ⟨_, rfl⟩
          rw [hm] at NM
          have HM := Lib.hid hm
          have NM' := Lib.hid NM
          clear hE E5' hset2 NM hm E4
          go_wp2_with fail
          obtain ⟨W5, hW5⟩ : ∃ W5 : World, Hid (W5 = wr.setCell ⟨SB, i, none⟩ (.int .i64 (k : Int))) := ⟨_, Lib.hid rfl⟩
          rw [← hW5.out] at NM' E5 ⊢
          refine NM'.out.mono ?_
          rintro e W6 ⟨rfl, hg6⟩
          have E6' := E5.out.grow HI.out HL.out hg6
          have E6 := Lib.hid E6'
          have y0 := E6'.box.cell 0 (by simp)
          have y1 := E6'.box.cell 1 (by simp)
          have y2 := E6'.box.cell 2 (by simp)
          simp only [List.getElem_cons_zero, List.getElem_cons_succ] at y0 y1 y2
          have yh := E6'.box.has
          clear hW5 E5 NM' E6' hg6 x0 x1 x2 xh e0 f0 rh
          have ROW := Lib.hid (nbRow_succ (calS l ms) s i k)
          by_cases hko : (k : Int) = s[i]
          · have hb : ((k : Int) != s[i]) = false := by simp [hko]
            have R0 : Hid (nbRow (calS l ms) s i (k + 1) = nbRow (calS l ms) s i k) := Lib.hid (by rw [ROW.out]; simp [nbOne, SO.out, hko])
            clear hko
            go_wp2_with fail
            go_roundw
            case rel => exact ⟨k + 1, by omega, by go_num, _, by rw [R0.out]; exact E6.out⟩
            case measure => simp [intOf]; omega
          · have hb : ((k : Int) != s[i]) = true := by simp [hko]
            have SC := scalm_any l ms (s.set i (k : Int)) (some ⟨b, o, none⟩) am cl cm BK W6 (HE.out.gr E6.out.gr) T2.out E6.out.kn
            rw [HM.out] at SC
            have SC' := Lib.hid SC
            clear SC
            cases hc : calS l ms (s.set i (k : Int)) with
            | false =>
              have R0 : Hid (nbRow (calS l ms) s i (k + 1) = nbRow (calS l ms) s i k) := Lib.hid (by rw [ROW.out]; simp [nbOne, hc])
              rw [hc] at SC'
              clear hko hc
              go_wp2_with fail
              refine SC'.out.mono ?_
              rintro e W7 ⟨rfl, hk7, hg7⟩
              have E7 := Lib.hid (E6.out.known HI.out HL.out sb.out xb.out hbk'.out HB.out hg7 hk7)
              clear hk7 hg7 E6
              go_wp2_with fail
              go_roundw
              case rel => exact ⟨k + 1, by omega, by go_num, _, by rw [R0.out]; exact E7.out⟩
              case measure => simp [intOf]; omega
            | true =>
              have R0 : Hid (nbRow (calS l ms) s i (k + 1) = nbRow (calS l ms) s i k ++ [((i : Int), (k : Int), s.set i (k : Int))]) := Lib.hid (by rw [ROW.out]; simp [nbOne, hc, SO.out, hko])
              have MEM : Hid (((i : Int), (k : Int), s.set i (k : Int)) ∈ nbS l (calS l ms) s) := Lib.hid (mem_nbS.2 ⟨i, k, hlt, by rw [KO.out]; exact k2, by rw [SO.out]; exact hko, hc, rfl⟩)
              rw [hc] at SC'
              clear hko hc
              go_wp2_with fail
              refine SC'.out.mono ?_
              rintro e W7 ⟨rfl, hk7, hg7⟩
              have E7 := Lib.hid (E6.out.known HI.out HL.out sb.out xb.out hbk'.out HB.out hg7 hk7)
              have CV := HV.out _ _ W7 _ MEM.out E7.out.gr E7.out.st (E7.out.hasL HL.out)
              simp only [HM.out] at CV
              have CV' := Lib.hid CV
              clear hk7 hg7 E6 CV
              go_wp2_with fail
              refine CV'.out.mono ?_
              rintro e W8 ⟨rfl, h1, h2, h3, h4⟩
              have E8 := Lib.hid (E7.out.call HI.out HB.out h1 h2 h3 h4)
              clear h1 h2 h3 h4 E7
              go_wp2_with fail
              go_roundw
              case rel => exact ⟨k + 1, by omega, by go_num, _, by rw [R0.out, ← List.append_assoc, List.foldl_append]; exact E8.out⟩
              case measure => simp [intOf]; omega
        · obtain rfl : k = l[i].choices.length := by omega
          have E9' := E4.out.set HI.out HL.out sb.out xs.out s0.out HB.out i s[i]
          rw [List.set_set, List.set_getElem_self] at E9'
          have E9 := Lib.hid E9'
          clear E9' E4 hE
          go_wp2_with fail
          go_roundw
          case rel =>
            refine ⟨i + 1, by omega, by go_num, ?_⟩
            rw [nbTo_succ, KO.out, Int.toNat_natCast]
            exact E9.out
          case measure => simp [intOf]; omega
    · obtain rfl : i = l.length := by omega
      clear hE
      go_wp2_with fail
      go_end0
      exact ⟨rfl, HI.out.sub _ _ _ _ EI1.out.st (fun b hb => by simp [hb]), EI1.out.gr, EI1.out.kn, EI1.out.keep, EI1.out.size⟩
end Go.Proofs.YtenehghpmnajpaaGreatDoor
/-! Contract of space.each with the function value of Plan, for whatever that does (printed by wip/tools/each.py). -/
set_option linter.unusedVariables false
set_option linter.unusedSimpArgs false
namespace Go.Proofs.YtenehghpmnajpaaGreatDoor
open Go.RowKit
open Classical
def VisitP {σ : Type} (I : Lies σ) (step : σ → Nbr → σ) (l : List Clk) (cal : List Int → Bool) (s : List Int) (c1 c2 c3 c4 : Nat) (w0 : World) : Prop :=
  ∀ (t : Nbr) (st : σ) (w : World) (L : List Nat), t ∈ nbS l cal s → Gr w0 w → I st w L → (∀ b ∈ L, Has w b) →
    Calls Tryz.prog 83 #[.agg #[.int .i64 1, .int .i64 t.1, .int .i64 t.2.1], .int .i64 (num l t.2.2), .pointer (some ⟨c1, 0, none⟩), .pointer (some ⟨c2, 0, none⟩), .pointer (some ⟨c3, 0, none⟩), .pointer (some ⟨c4, 0, none⟩)] w fun e w' => e = .returned (.tuple #[]) ∧ I (step st t) w' L ∧ Gr w0 w' ∧ (∀ b ∈ L, w'.heap[b]? = w.heap[b]?) ∧ w.heap.size ≤ w'.heap.size
theorem eachP_any {σ : Type} (I : Lies σ) (step : σ → Nbr → σ) (l : List Clk) (ms : List Lmt) (s : List Int) (al am : Option Addr) (cl cm BK c1 c2 c3 c4 : Nat) (L0 : List Nat) (w0 w : World) (st : σ)
    (henv : Env w0 l ms al am) (hg0 : Gr w0 w) (hset : SetOk l s) (hk : Kn w BK l (calS l ms)) (hbk : w0.heap.size ≤ BK) (hL : ∀ b ∈ L0, Has w b) (hBK : BK ∈ L0) (hI : LiesOk I)
    (hst : ∀ w1 L, Gr w w1 → (∀ b ∈ L, b ∈ L0 ∨ w.heap.size ≤ b) → I st w1 L) (hv : VisitP I step l (calS l ms) s c1 c2 c3 c4 w0) :
    Calls Tryz.prog 82 #[spV l ms al am cl cm BK, .int .i64 (num l s), .func (.func 83) #[] #[.pointer (some ⟨c1, 0, none⟩), .pointer (some ⟨c2, 0, none⟩), .pointer (some ⟨c3, 0, none⟩), .pointer (some ⟨c4, 0, none⟩)]] w fun e w' =>
      e = .returned (.tuple #[]) ∧ I ((nbS l (calS l ms) s).foldl step st) w' L0 ∧ Gr w0 w' ∧ Kn w' BK l (calS l ms) ∧ (∀ b ∈ L0, b ≠ BK → w'.heap[b]? = w.heap[b]?) ∧ w.heap.size ≤ w'.heap.size := by
  obtain ⟨nb, _, _, _⟩ := cchk_zero henv.chk
  have hl := small_len nb
  have hsl : s.length = l.length := hset.1
  have NB := Lib.hid nb
  have HE := Lib.hid henv
  have HG0 := Lib.hid hg0
  have HT := Lib.hid hset
  have HL := Lib.hid hL
  have HB := Lib.hid hBK
  have HI := Lib.hid hI
  have HS := Lib.hid hst
  have HV := Lib.hid hv
  have hbk' := Lib.hid hbk
  have HK := Lib.hid hk
  obtain ⟨XB, hXB⟩ : ∃ XB : Nat, Hid (w.heap.size = XB) := ⟨_, Lib.hid rfl⟩
  obtain ⟨n, hn⟩ : ∃ n, num l s = n := ⟨_, rfl⟩
  obtain ⟨W1, hW1⟩ : ∃ W1 : World, Hid (W1 = w.alloc (.cells #[.slice al l.length cl, .slice am ms.length cm, .map (some BK)] 127)) := ⟨_, Lib.hid rfl⟩
  have G1 : Hid (Gr w W1) := Lib.hid (by rw [hW1.out]; exact (Gr.refl _).alloc _)
  have X1 : Hid (Row W1 XB 127 [.slice al l.length cl, .slice am ms.length cm, .map (some BK)]) := Lib.hid (by rw [hW1.out, ← hXB.out]; exact Row.new w _ _)
  have z1 : Hid (W1.heap.size = w.heap.size + 1) := Lib.hid (by rw [hW1.out]; simp)
  have ST : Hid (Calls Tryz.prog 85 #[.agg #[.slice al l.length cl, .slice am ms.length cm, .map (some BK)], .int .i64 n] W1 (fun e w' => ∃ SB, e = .returned (.slice (some ⟨SB, 0, none⟩) l.length l.length) ∧ Row w' SB 3 (nums s) ∧ W1.heap.size ≤ SB ∧ Gr W1 w')) := Lib.hid (by
    rw [← hn]
    exact spSet_any l s al am cl ms.length cm (.map (some BK)) W1 (clks_gr henv.clks (hg0.trans G1.out)) henv.chk hset)
  have hGW := Lib.hid (show Gr w W1 from G1.out)
  rw [hn]
  clear nb henv hg0 hset hL hBK hI hst hv hbk hk hn
  go_enter Tryz.func82, Tryz.ntmps82
  go_wp2_with fail
  rw [← hW1.out]
  refine ST.out.mono ?_
  rintro e W2 ⟨SB, rfl, hr, hb, hg⟩
  rw [hXB.out]
  have sb : Hid (w.heap.size ≤ SB) := Lib.hid (by have := z1.out; omega)
  have xs : Hid (XB ≠ SB) := Lib.hid (by have := z1.out; have := hXB.out; omega)
  have xb : Hid (w.heap.size ≤ XB) := Lib.hid (by have := hXB.out; omega)
  have s0 : Hid (w0.heap.size ≤ SB) := Lib.hid (Nat.le_trans HG0.out.size sb.out)
  have hE : EI I w0 w l ms al am cl cm BK XB SB L0 st W2 s :=
    { row := hr, box := X1.out.gr hg, kn := HK.out.gr (G1.out.trans hg),
       st := HS.out W2 _ (G1.out.trans hg) (fun b hb => by
         rcases List.mem_cons.1 hb with e | hb
         · subst e; exact .inr xb.out
         · rcases List.mem_cons.1 hb with e | hb
           · subst e; exact .inr sb.out
           · exact .inl hb),
       gr := HG0.out.trans (G1.out.trans hg),
       keep := fun b hb _ => (G1.out.trans hg).below.block b (HL.out b hb),
       size := (G1.out.trans hg).size }
  have E2 := Lib.hid hE
  have x0 := hE.box.cell 0 (by simp)
  simp only [List.getElem_cons_zero] at x0
  have xh := hE.box.has
  clear hE hr hb hg ST X1 G1 hGW HK HS
  go_wp2_with fail
  clear x0 xh
  go_loopw [18] (fun i wr => ∃ k : Nat, k ≤ l.length ∧ i = .int .i64 k ∧ EI I w0 w l ms al am cl cm BK XB SB L0 ((nbTo l (calS l ms) s k).foldl step st) wr s) (fun i _ => l.length - (intOf i).toNat)
  case atStart => exact ⟨0, Nat.zero_le _, rfl, E2.out⟩
  case round =>
    clear E2
    obtain ⟨i, hi, rfl, hE⟩ := hrel
    obtain ⟨wo, rfl⟩ : ∃ wo : World, wo = wr := ⟨_, rfl⟩
    have EI1 := Lib.hid hE
    by_cases hlt : i < l.length
    · have hls : i < s.length := by omega
      obtain ⟨b, o, rfl, ⟨d0, _⟩, ⟨ap, cp, d1, _⟩, ⟨ac, cc, d2, d2l, d2f, _⟩, ⟨d3, _⟩, ⟨d4, _⟩⟩ := clks_gr HE.out.clks hE.gr i hlt
      have e0 := hE.row.iat i hls
      have rh := hE.row.has
      have i2 : (i : Int) < l.length := by omega
      obtain ⟨fp, fc⟩ := small_at NB.out hlt
      unfold Fit at d2f
      have KO : Hid (kOf l i = (l[i].choices.length : Int)) := Lib.hid (kOf_at hlt)
      have SO : Hid (sOf s i = s[i]) := Lib.hid (sOf_at hls)
      clear hE
      go_wp2_with fail
      obtain ⟨W3, hW3⟩ : ∃ W3 : World, Hid (W3 = wo.alloc (.cells #[.int .i64 l[i].kind, .slice ap l[i].parents.length cp, .slice ac l[i].choices.length cc, .int .i64 l[i].low, .int .i64 l[i].high] 79)) := ⟨_, Lib.hid rfl⟩
      rw [← hW3.out]
      have E3 := Lib.hid (EI1.out.grow HI.out HL.out (w' := W3) (by rw [hW3.out]; exact (Gr.refl _).alloc _))
      clear hW3 EI1 d0 d1 d2 d3 d4 e0 rh
      go_loopw [30] (fun j wr => ∃ k : Nat, k ≤ l[i].choices.length ∧ j = .int .i64 k ∧ ∃ x, EI I w0 w l ms (some ⟨b, o, none⟩) am cl cm BK XB SB L0 ((nbTo l (calS l ms) s i ++ nbRow (calS l ms) s i k).foldl step st) wr (s.set i x)) (fun j _ => l[i].choices.length - (intOf j).toNat)
      case atStart => exact ⟨0, Nat.zero_le _, rfl, s[i], by have := E3.out; simpa [nbRow] using this⟩
      case round =>
        clear E3
        obtain ⟨k, hk, rfl, x, hE⟩ := hrel
        have e0 := hE.row.cell i (by rw [nums_len, List.length_set]; exact hls)
        have f0 := hE.row.free i
        have rh := hE.row.has
        have E4 := Lib.hid hE
        by_cases hlk : k < l[i].choices.length
        · have k2 : (k : Int) < l[i].choices.length := by omega
          have hset2 : SetOk l (s.set i (k : Int)) := HT.out.set hlt (by omega) (by rw [KO.out]; exact k2)
          have E5' := E4.out.set HI.out HL.out sb.out xs.out s0.out HB.out i (k : Int)
          rw [List.set_set] at E5'
          have E5 := Lib.hid E5'
          have T2 := Lib.hid hset2
          have x0 := E5'.box.cell 0 (by simp)
          have x1 := E5'.box.cell 1 (by simp)
          have x2 := E5'.box.cell 2 (by simp)
          simp only [List.getElem_cons_zero, List.getElem_cons_succ] at x0 x1 x2
          have xh := E5'.box.has
          have NM := number_any l (s.set i (k : Int)) (some ⟨b, o, none⟩) (some ⟨SB, 0, none⟩) am cl l.length ms.length cm (.map (some BK)) _ (clks_gr HE.out.clks E5'.gr) (E5'.row.s.slI (setOk_wide HE.out.chk hset2)) HE.out.chk hset2
          rw [hset2.1] at NM
          obtain ⟨m, hm⟩ : ∃ m, num l (s.set i (k : Int)) = m := ⟨_, rfl⟩
          rw [hm] at NM
          have HM := Lib.hid hm
          have NM' := Lib.hid NM
          clear hE E5' hset2 NM hm E4
          go_wp2_with fail
          obtain ⟨W5, hW5⟩ : ∃ W5 : World, Hid (W5 = wr.setCell ⟨SB, i, none⟩ (.int .i64 (k : Int))) := ⟨_, Lib.hid rfl⟩
          rw [← hW5.out] at NM' E5 ⊢
          refine NM'.out.mono ?_
          rintro e W6 ⟨rfl, hg6⟩
          have E6' := E5.out.grow HI.out HL.out hg6
          have E6 := Lib.hid E6'
          have y0 := E6'.box.cell 0 (by simp)
          have y1 := E6'.box.cell 1 (by simp)
          have y2 := E6'.box.cell 2 (by simp)
          simp only [List.getElem_cons_zero, List.getElem_cons_succ] at y0 y1 y2
          have yh := E6'.box.has
          clear hW5 E5 NM' E6' hg6 x0 x1 x2 xh e0 f0 rh
          have ROW := Lib.hid (nbRow_succ (calS l ms) s i k)
          by_cases hko : (k : Int) = s[i]
          · have hb : ((k : Int) != s[i]) = false := by simp [hko]
            have R0 : Hid (nbRow (calS l ms) s i (k + 1) = nbRow (calS l ms) s i k) := Lib.hid (by rw [ROW.out]; simp [nbOne, SO.out, hko])
            clear hko
            go_wp2_with fail
            go_roundw
            case rel => exact ⟨k + 1, by omega, by go_num, _, by rw [R0.out]; exact E6.out⟩
            case measure => simp [intOf]; omega
          · have hb : ((k : Int) != s[i]) = true := by simp [hko]
            have SC := scalm_any l ms (s.set i (k : Int)) (some ⟨b, o, none⟩) am cl cm BK W6 (HE.out.gr E6.out.gr) T2.out E6.out.kn
            rw [HM.out] at SC
            have SC' := Lib.hid SC
            clear SC
            cases hc : calS l ms (s.set i (k : Int)) with
            | false =>
              have R0 : Hid (nbRow (calS l ms) s i (k + 1) = nbRow (calS l ms) s i k) := Lib.hid (by rw [ROW.out]; simp [nbOne, hc])
              rw [hc] at SC'
              clear hko hc
              go_wp2_with fail
              refine SC'.out.mono ?_
              rintro e W7 ⟨rfl, hk7, hg7⟩
              have E7 := Lib.hid (E6.out.known HI.out HL.out sb.out xb.out hbk'.out HB.out hg7 hk7)
              clear hk7 hg7 E6
              go_wp2_with fail
              go_roundw
              case rel => exact ⟨k + 1, by omega, by go_num, _, by rw [R0.out]; exact E7.out⟩
              case measure => simp [intOf]; omega
            | true =>
              have R0 : Hid (nbRow (calS l ms) s i (k + 1) = nbRow (calS l ms) s i k ++ [((i : Int), (k : Int), s.set i (k : Int))]) := Lib.hid (by rw [ROW.out]; simp [nbOne, hc, SO.out, hko])
              have MEM : Hid (((i : Int), (k : Int), s.set i (k : Int)) ∈ nbS l (calS l ms) s) := Lib.hid (mem_nbS.2 ⟨i, k, hlt, by rw [KO.out]; exact k2, by rw [SO.out]; exact hko, hc, rfl⟩)
              rw [hc] at SC'
              clear hko hc
              go_wp2_with fail
              refine SC'.out.mono ?_
              rintro e W7 ⟨rfl, hk7, hg7⟩
              have E7 := Lib.hid (E6.out.known HI.out HL.out sb.out xb.out hbk'.out HB.out hg7 hk7)
              have CV := HV.out _ _ W7 _ MEM.out E7.out.gr E7.out.st (E7.out.hasL HL.out)
              simp only [HM.out] at CV
              have CV' := Lib.hid CV
              clear hk7 hg7 E6 CV
              go_wp2_with fail
              refine CV'.out.mono ?_
              rintro e W8 ⟨rfl, h1, h2, h3, h4⟩
              have E8 := Lib.hid (E7.out.call HI.out HB.out h1 h2 h3 h4)
              clear h1 h2 h3 h4 E7
              go_wp2_with fail
              go_roundw
              case rel => exact ⟨k + 1, by omega, by go_num, _, by rw [R0.out, ← List.append_assoc, List.foldl_append]; exact E8.out⟩
              case measure => simp [intOf]; omega
        · obtain rfl : k = l[i].choices.length := by omega
          have E9' := E4.out.set HI.out HL.out sb.out xs.out s0.out HB.out i s[i]
          rw [List.set_set, List.set_getElem_self] at E9'
          have E9 := Lib.hid E9'
          clear E9' E4 hE
          go_wp2_with fail
          go_roundw
          case rel =>
            refine ⟨i + 1, by omega, by go_num, ?_⟩
            rw [nbTo_succ, KO.out, Int.toNat_natCast]
            exact E9.out
          case measure => simp [intOf]; omega
    · obtain rfl : i = l.length := by omega
      clear hE
      go_wp2_with fail
      go_end0
      exact ⟨rfl, HI.out.sub _ _ _ _ EI1.out.st (fun b hb => by simp [hb]), EI1.out.gr, EI1.out.kn, EI1.out.keep, EI1.out.size⟩
end Go.Proofs.YtenehghpmnajpaaGreatDoor

/- Lemmas and contracts for the proof of RetuneAnswers (several texts in one, printed by wip/tools/pack.py): Ki Kj. -/
import Derived.Test.YtenehghpmnajpaaGreatDoorRa8pe
import Derived.Test.YtenehghpmnajpaaGreatDoorRa8pd
import Derived.Test.YtenehghpmnajpaaGreatDoorRa8pc
set_option maxRecDepth 100000
set_option maxHeartbeats 16000000

/-! Contracts of clock.setting, Setting, Limits. -/
set_option linter.unusedVariables false
set_option linter.unusedSimpArgs false
namespace Go.Proofs.YtenehghpmnajpaaGreatDoor
open Go.RowKit
open Classical
theorem not_setOk {l : List Clk} {s : List Int} {k : Nat} (hk : k < l.length) (hk' : k < s.length) (h : ¬ (0 ≤ s[k] ∧ s[k] ≤ (l[k].choices.length : Int) - 1)) : ¬ SetOk l s := fun ⟨_, q⟩ => by
  have := q k hk hk'
  exact h ⟨this.1, by omega⟩
theorem pSet_any (l : List Clk) (s : List Int) (al aS : Option Addr) (cl cs : Nat) (w : World) (h : SlOf 5 RClk w al l) (hs : SlOf 1 RI w aS s) (hf : Fit l.length) (fs : Fit s.length) :
    Calls Tryz.prog 122 #[.slice al l.length cl, .slice aS s.length cs] w fun e w' => e = .returned (.bool (decide (SetOk l s))) ∧ w = w' := by
  unfold Fit at hf fs
  have H := Lib.hid h
  have HS := Lib.hid hs
  clear h hs
  by_cases hl : s.length = l.length
  · have hlb : ((s.length : Int) != (l.length : Int)) = false := by simp [hl]
    have HL := Lib.hid hl
    clear hl
    go_enter Tryz.func122, Tryz.ntmps122
    go_wp2
    go_loop [14] (fun i => ∃ k : Nat, k ≤ s.length ∧ i = .int .i64 k ∧ (∀ j (h : j < l.length) (h' : j < s.length), j < k → 0 ≤ s[j] ∧ s[j] < l[j].choices.length)) (fun i => s.length - (intOf i).toNat)
    case atStart => exact ⟨0, Nat.zero_le _, rfl, fun j _ _ h => absurd h (by omega)⟩
    case round =>
      obtain ⟨k, hk, rfl, hall⟩ := hrel
      have HA := Lib.hid hall
      clear hall
      by_cases hlt : k < s.length
      · have hlt2 : k < l.length := by have := HL.out; omega
        obtain ⟨bs, os, rfl, ⟨q1, _⟩⟩ := HS.out.one k hlt
        obtain ⟨b, o, rfl, ⟨c0, _⟩, ⟨ap, cp, c1, c1l, c1f, sp⟩, ⟨ac, cc, c2, c2l, c2f, sc⟩, ⟨c4, _⟩, c5, _⟩ := H.out k hlt2
        unfold Fit at c2f
        clear sp sc c1f c0 c1 c4 c5
        go_wp2_with fail
        refine (pWithin_any _ _ _ _).mono ?_
        rintro e w' ⟨rfl, rfl⟩
        by_cases he : 0 ≤ s[k] ∧ s[k] ≤ (l[k].choices.length : Int) - 1
        · rw [decide_eq_true he]
          have HE := Lib.hid he
          clear he
          go_wp2_with fail
          go_round
          case rel =>
            refine ⟨k + 1, by omega, by go_num, fun j h1 h2 hj => ?_⟩
            by_cases e : j = k
            · subst e; have := HE.out; exact ⟨this.1, by omega⟩
            · exact HA.out j h1 h2 (by omega)
          case measure => simp [intOf]; omega
        · rw [decide_eq_false he]
          have HE := Lib.hid (not_setOk hlt2 hlt he)
          clear he
          go_wp2_with fail
          go_ret
          exact ⟨ret_bool (decide_eq_false HE.out).symm, rfl⟩
      · go_wp2
        go_ret
        exact ⟨ret_bool (decide_eq_true (show SetOk l s from ⟨HL.out, fun j h1 h2 => HA.out j h1 h2 (by omega)⟩)).symm, rfl⟩
  · have hlb : ((s.length : Int) != (l.length : Int)) = true := by simp; omega
    go_enter Tryz.func122, Tryz.ntmps122
    go_wp2
    go_ret
    exact ⟨ret_bool (decide_eq_false (fun q : SetOk l s => hl q.1)).symm, rfl⟩
theorem pSetting_any (l : List Clk) (s : List Int) (al aS : Option Addr) (cl cs : Nat) (w : World) (h : SlOf 5 RClk w al l) (hs : SlOf 1 RI w aS s) (hf : Fit l.length) (fs : Fit s.length) :
    Calls Tryz.prog 86 #[.slice al l.length cl, .slice aS s.length cs] w (Grows w (.bool (decide (cchk l = 0 ∧ SetOk l s)))) := by
  have H := Lib.hid h
  have HS := Lib.hid hs
  have HF := Lib.hid hf
  have FS := Lib.hid fs
  clear h hs hf fs
  obtain ⟨x, hx⟩ : ∃ x, cchk l = x := ⟨_, rfl⟩
  have HX := Lib.hid hx
  have rc := fun W (hW : Gr w W) => refCheck_any
  clear rc
  have PC := pCheck_any l al cl w H.out HF.out
  rw [hx] at PC
  rw [hx]
  have PC' := Lib.hid PC
  clear PC hx
  by_cases h0 : x = 0
  · subst h0
    go_enter Tryz.func86, Tryz.ntmps86
    go_wp2_with fail
    refine PC'.out.mono ?_
    rintro e w' ⟨rfl, O, d, rfl⟩
    go_wp2_with fail
    refine (pSet_any l s al aS cl cs _ (clks_gr H.out ((Gr.refl _).xt _ _)) (HS.out.giI ((Gr.refl _).xt _ _)) HF.out FS.out).mono ?_
    rintro e w' ⟨rfl, rfl⟩
    go_wp2_with fail
    go_ret
    exact ⟨ret_bool (by simp), (Gr.refl _).xt _ _⟩
  · have h0b : (x == 0) = false := by simp [h0]
    go_enter Tryz.func86, Tryz.ntmps86
    go_wp2_with fail
    refine PC'.out.mono ?_
    rintro e w' ⟨rfl, O, d, rfl⟩
    go_wp2_with fail
    go_ret
    exact ⟨ret_bool (by simp [h0]), (Gr.refl _).xt _ _⟩
/-! Limits -/
theorem pLimits1_any (l : List Clk) (x : Lmt) (al : Option Addr) (cl B : Nat) (w : World) (c : w.cell? ⟨B, 0, none⟩ = some (.slice al l.length cl)) (hf : Fit l.length) :
    Calls Tryz.prog 125 #[.agg #[.int .i64 x.clock, .int .i64 x.low, .int .i64 x.high], .pointer (some ⟨B, 0, none⟩)] w (Grows w (.bool (!decide (LmtOk l x)))) := by
  unfold Fit at hf
  have ch := has_of_cell c
  by_cases h1 : 0 ≤ x.clock ∧ x.clock ≤ (l.length : Int) - 1
  · have D1 := Lib.hid (decide_eq_true h1)
    by_cases h2 : 0 ≤ x.high ∧ x.high ≤ 4000000000
    · have D2 := Lib.hid (decide_eq_true h2)
      by_cases h3 : 0 ≤ x.low ∧ x.low ≤ x.high
      · have D3 := Lib.hid (decide_eq_true h3)
        have HE : Hid (LmtOk l x) := Lib.hid ⟨h1.1, by omega, h3.1, h3.2, h2.2⟩
        clear h1 h2 h3
        go_enter Tryz.func125, Tryz.ntmps125
        go_wp2_with fail
        refine (pWithin_any _ _ _ _).mono ?_
        rintro e w' ⟨rfl, rfl⟩
        rw [D1.out]
        go_wp2_with fail
        refine (pWithin_any _ _ _ _).mono ?_
        rintro e w' ⟨rfl, rfl⟩
        rw [D2.out]
        go_wp2_with fail
        refine (pWithin_any _ _ _ _).mono ?_
        rintro e w' ⟨rfl, rfl⟩
        rw [D3.out]
        go_wp2_with fail
        go_ret
        exact ⟨ret_bool (by rw [decide_eq_true HE.out]; rfl), (Gr.refl _).alloc _⟩
      · have D3 := Lib.hid (decide_eq_false h3)
        have HE : Hid (¬ LmtOk l x) := Lib.hid (fun q => h3 ⟨q.2.2.1, q.2.2.2.1⟩)
        clear h1 h2 h3
        go_enter Tryz.func125, Tryz.ntmps125
        go_wp2_with fail
        refine (pWithin_any _ _ _ _).mono ?_
        rintro e w' ⟨rfl, rfl⟩
        rw [D1.out]
        go_wp2_with fail
        refine (pWithin_any _ _ _ _).mono ?_
        rintro e w' ⟨rfl, rfl⟩
        rw [D2.out]
        go_wp2_with fail
        refine (pWithin_any _ _ _ _).mono ?_
        rintro e w' ⟨rfl, rfl⟩
        rw [D3.out]
        go_wp2_with fail
        go_ret
        exact ⟨ret_bool (by rw [decide_eq_false HE.out]; rfl), (Gr.refl _).alloc _⟩
    · have D2 := Lib.hid (decide_eq_false h2)
      have HE : Hid (¬ LmtOk l x) := Lib.hid (fun q => h2 ⟨Int.le_trans q.2.2.1 q.2.2.2.1, q.2.2.2.2⟩)
      clear h1 h2
      go_enter Tryz.func125, Tryz.ntmps125
      go_wp2_with fail
      refine (pWithin_any _ _ _ _).mono ?_
      rintro e w' ⟨rfl, rfl⟩
      rw [D1.out]
      go_wp2_with fail
      refine (pWithin_any _ _ _ _).mono ?_
      rintro e w' ⟨rfl, rfl⟩
      rw [D2.out]
      go_wp2_with fail
      go_ret
      exact ⟨ret_bool (by rw [decide_eq_false HE.out]; rfl), (Gr.refl _).alloc _⟩
  · have D1 := Lib.hid (decide_eq_false h1)
    have HE : Hid (¬ LmtOk l x) := Lib.hid (fun q => h1 ⟨q.1, by have := q.2.1; omega⟩)
    clear h1
    go_enter Tryz.func125, Tryz.ntmps125
    go_wp2_with fail
    refine (pWithin_any _ _ _ _).mono ?_
    rintro e w' ⟨rfl, rfl⟩
    rw [D1.out]
    go_wp2_with fail
    go_ret
    exact ⟨ret_bool (by rw [decide_eq_false HE.out]; rfl), (Gr.refl _).alloc _⟩
def AnyBad (l : List Clk) (m : List Lmt) : Prop := ∃ k, ∃ h : k < m.length, ¬ LmtOk l m[k]
theorem indexLmt_any (l : List Clk) (m : List Lmt) (al am : Option Addr) (cl cm B : Nat) (w : World) (c : w.cell? ⟨B, 0, none⟩ = some (.slice al l.length cl)) (hf : Fit l.length) (h : SlOf 3 RLmt w am m) (hm : Fit m.length) :
    Calls Tryz.prog 151 #[.slice am m.length cm, .func (.func 125) #[] #[.pointer (some ⟨B, 0, none⟩)]] w fun e w' => ∃ y : Int, e = .returned (.int .i64 y) ∧ (0 ≤ y ↔ AnyBad l m) ∧ Gr w w' := by
  unfold Fit at hm
  have H := Lib.hid h
  have HF := Lib.hid hf
  have HC := Lib.hid c
  clear h hf c
  go_enter Tryz.func151, Tryz.ntmps151
  go_wp2
  go_loopw [8] (fun i wr => ∃ k : Nat, k ≤ m.length ∧ i = .int .i64 k ∧ (∀ j (h : j < m.length), j < k → LmtOk l m[j]) ∧ Gr w wr) (fun i _ => m.length - (intOf i).toNat)
  case atStart => exact ⟨0, Nat.zero_le _, rfl, fun j _ h => absurd h (by omega), Gr.refl _⟩
  case round =>
    obtain ⟨k, hk, rfl, hall, hg⟩ := hrel
    have HA := Lib.hid hall
    have HG := Lib.hid hg
    clear hall hg
    obtain ⟨wo, rfl⟩ : ∃ wo : World, wo = wr := ⟨_, rfl⟩
    by_cases hlt : k < m.length
    · obtain ⟨b, o, rfl, ⟨c0, _⟩, ⟨c1, _⟩, ⟨c2, _⟩⟩ := lmts_gr H.out HG.out k hlt
      have hcall := pLimits1_any l m[k] al cl B wo (cell_gr HG.out HC.out) HF.out
      by_cases hq : LmtOk l m[k]
      · rw [decide_eq_true hq] at hcall
        have Q := Lib.hid hq
        clear hq
        go_wp2_with fail
        refine hcall.mono ?_
        rintro e w' ⟨rfl, O, d, rfl⟩
        go_wp2_with fail
        go_roundw
        case rel =>
          refine ⟨k + 1, by omega, by go_num, fun j h1 hj => ?_, HG.out.xt _ _⟩
          by_cases e : j = k
          · subst e; exact Q.out
          · exact HA.out j h1 (by omega)
        case measure => simp [intOf]; omega
      · rw [decide_eq_false hq] at hcall
        have Q := Lib.hid hq
        clear hq
        go_wp2_with fail
        refine hcall.mono ?_
        rintro e w' ⟨rfl, O, d, rfl⟩
        go_wp2_with fail
        go_ret
        exact ⟨k, rfl, ⟨fun _ => ⟨k, hlt, Q.out⟩, fun _ => by omega⟩, HG.out.xt _ _⟩
    · go_wp2
      go_ret
      exact ⟨-1, rfl, ⟨fun q => by omega, fun ⟨j, hj, q⟩ => absurd (HA.out j hj (by omega)) q⟩, HG.out⟩
theorem containsLmt_any (l : List Clk) (m : List Lmt) (al am : Option Addr) (cl cm B : Nat) (w : World) (c : w.cell? ⟨B, 0, none⟩ = some (.slice al l.length cl)) (hf : Fit l.length) (h : SlOf 3 RLmt w am m) (hm : Fit m.length) :
    Calls Tryz.prog 124 #[.slice am m.length cm, .func (.func 125) #[] #[.pointer (some ⟨B, 0, none⟩)]] w (Grows w (.bool (decide (AnyBad l m)))) := by
  have H := Lib.hid h
  have HF := Lib.hid hf
  have HM := Lib.hid hm
  have HC := Lib.hid c
  clear h hf c hm
  go_enter Tryz.func124, Tryz.ntmps124
  go_wp2_with fail
  refine (indexLmt_any l m al am cl cm B w HC.out HF.out H.out HM.out).mono ?_
  rintro e w' ⟨y, rfl, hy, hg⟩
  have HY := Lib.hid hy
  have HG := Lib.hid hg
  clear hy hg
  go_wp2_with fail
  go_ret
  exact ⟨ret_bool (by rw [decide_eq_decide]; exact HY.out), HG.out⟩
end Go.Proofs.YtenehghpmnajpaaGreatDoor
/-! Contract of clock.Limits. -/
set_option linter.unusedVariables false
set_option linter.unusedSimpArgs false
namespace Go.Proofs.YtenehghpmnajpaaGreatDoor
open Go.RowKit
open Classical
theorem lmtsOk_iff {l : List Clk} {m : List Lmt} : LmtsOk l m ↔ cchk l = 0 ∧ m.length ≤ 32 ∧ ¬ AnyBad l m :=
  ⟨fun ⟨h1, h2, h3⟩ => ⟨h1, h2, fun ⟨k, hk, q⟩ => q (h3 k hk)⟩, fun ⟨h1, h2, h3⟩ => ⟨h1, h2, fun k hk => Classical.byContradiction fun q => h3 ⟨k, hk, q⟩⟩⟩
theorem pLimits_any (l : List Clk) (m : List Lmt) (al am : Option Addr) (cl cm : Nat) (w : World) (hl : SlOf 5 RClk w al l) (hf : Fit l.length) (h : SlOf 3 RLmt w am m) (hm : Fit m.length) :
    Calls Tryz.prog 97 #[.slice al l.length cl, .slice am m.length cm] w (Grows w (.bool (decide (LmtsOk l m)))) := by
  have H := Lib.hid h
  have HL := Lib.hid hl
  have HF := Lib.hid hf
  have HM := Lib.hid hm
  unfold Fit at hm
  clear h hl hf
  obtain ⟨x, hx⟩ : ∃ x, cchk l = x := ⟨_, rfl⟩
  have hPC := fun W (hW : Gr w W) => pCheck_any l al cl W (clks_gr HL.out hW) HF.out
  rw [hx] at hPC
  have PC := Lib.hid hPC
  have HX := Lib.hid hx
  clear hPC hx
  by_cases h0 : x = 0
  · subst h0
    by_cases h1 : m.length ≤ 32
    · have h1b : decide ((m.length : Int) ≤ 32) = true := decide_eq_true (by omega)
      by_cases h2 : AnyBad l m
      · have D2 := Lib.hid (decide_eq_true h2)
        have HE : Hid (¬ LmtsOk l m) := Lib.hid (fun q => (lmtsOk_iff.1 q).2.2 h2)
        clear h2
        go_enter Tryz.func97, Tryz.ntmps97
        go_wp2_with fail
        refine (PC.out _ ((Gr.refl _).alloc _)).mono ?_
        rintro e w' ⟨rfl, O, d, rfl⟩
        go_wp2_with fail
        refine (containsLmt_any l m al am cl cm _ _ (by simp [go_sem]) HF.out (lmts_gr H.out (((Gr.refl _).alloc _).xt _ _)) HM.out).mono ?_
        rintro e w' ⟨rfl, O2, d2, rfl⟩
        rw [D2.out]
        go_wp2_with fail
        go_ret
        exact ⟨ret_bool (decide_eq_false HE.out).symm, by repeat (first | with_reducible exact Gr.refl _ | with_reducible refine Gr.xt _ _ ?_ | with_reducible refine Gr.alloc _ ?_)⟩
      · have D2 := Lib.hid (decide_eq_false h2)
        have HE : Hid (LmtsOk l m) := Lib.hid (lmtsOk_iff.2 ⟨HX.out, h1, h2⟩)
        clear h2
        go_enter Tryz.func97, Tryz.ntmps97
        go_wp2_with fail
        refine (PC.out _ ((Gr.refl _).alloc _)).mono ?_
        rintro e w' ⟨rfl, O, d, rfl⟩
        go_wp2_with fail
        refine (containsLmt_any l m al am cl cm _ _ (by simp [go_sem]) HF.out (lmts_gr H.out (((Gr.refl _).alloc _).xt _ _)) HM.out).mono ?_
        rintro e w' ⟨rfl, O2, d2, rfl⟩
        rw [D2.out]
        go_wp2_with fail
        go_ret
        exact ⟨ret_bool (decide_eq_true HE.out).symm, by repeat (first | with_reducible exact Gr.refl _ | with_reducible refine Gr.xt _ _ ?_ | with_reducible refine Gr.alloc _ ?_)⟩
    · have h1b : decide ((m.length : Int) ≤ 32) = false := decide_eq_false (by omega)
      have HE : Hid (¬ LmtsOk l m) := Lib.hid (fun q => h1 q.2.1)
      go_enter Tryz.func97, Tryz.ntmps97
      go_wp2_with fail
      refine (PC.out _ ((Gr.refl _).alloc _)).mono ?_
      rintro e w' ⟨rfl, O, d, rfl⟩
      go_wp2_with fail
      go_ret
      exact ⟨ret_bool (decide_eq_false HE.out).symm, by repeat (first | with_reducible exact Gr.refl _ | with_reducible refine Gr.xt _ _ ?_ | with_reducible refine Gr.alloc _ ?_)⟩
  · have h0b : (x == 0) = false := by simp [h0]
    have HE : Hid (¬ LmtsOk l m) := Lib.hid (fun q => h0 (by rw [← HX.out]; exact q.1))
    go_enter Tryz.func97, Tryz.ntmps97
    go_wp2_with fail
    refine (PC.out _ ((Gr.refl _).alloc _)).mono ?_
    rintro e w' ⟨rfl, O, d, rfl⟩
    go_wp2_with fail
    go_ret
    exact ⟨ret_bool (decide_eq_false HE.out).symm, by repeat (first | with_reducible exact Gr.refl _ | with_reducible refine Gr.xt _ _ ?_ | with_reducible refine Gr.alloc _ ?_)⟩
end Go.Proofs.YtenehghpmnajpaaGreatDoor
/-! The rates of clocks with a setting, in plain numbers: none for a clock that does not run. No program in sight. No conditions. -/
set_option linter.unusedVariables false
set_option linter.unusedSimpArgs false
namespace Go.Proofs.YtenehghpmnajpaaGreatDoor
open Go.RowKit
abbrev Rt := Option (Int × Int)
def chC (c : Clk) (k : Int) : Int := c.choices.getD k.toNat 0
def parC (c : Clk) (k : Int) : Int := if c.kind = 1 then -1 else if c.kind = 4 then c.parents.getD (chC c k).toNat 0 else c.parents.getD 0 0
def scaleR (c : Clk) (h : Int) (n d : Int) : Rt :=
  if c.kind = 2 then some (oN n d h, oD n d h) else if c.kind = 3 then some (tN n d h, tD n d h) else if c.kind = 5 ∧ h = 0 then none else some (n, d)
def stepR (out : List Rt) (c : Clk) (k : Int) : Rt :=
  if c.kind = 1 then some (chC c k, 1) else match out.getD (parC c k).toNat none with
    | none => none
    | some (n, d) => scaleR c (chC c k) n d
def ratesGo : List Clk → List Int → List Rt → List Rt
  | c :: l, k :: s, out => ratesGo l s (out ++ [stepR out c k])
  | _, _, out => out
def rts (l : List Clk) (s : List Int) : List Rt := ratesGo l s []
theorem ratesGo_snoc (l : List Clk) : ∀ (s : List Int) (out : List Rt) (c : Clk) (k : Int), l.length = s.length → ratesGo (l ++ [c]) (s ++ [k]) out = ratesGo l s out ++ [stepR (ratesGo l s out) c k] := by
  induction l with
  | nil => intro s out c k h; have : s = [] := List.eq_nil_of_length_eq_zero (by simpa using h.symm); subst this; rfl
  | cons d l ih =>
    intro s out c k h
    cases s with
    | nil => simp at h
    | cons j s => exact ih s _ c k (by simpa using h)
theorem rts_take (l : List Clk) (s : List Int) (k : Nat) (h : k < l.length) (h' : k < s.length) : rts (l.take (k + 1)) (s.take (k + 1)) = rts (l.take k) (s.take k) ++ [stepR (rts (l.take k) (s.take k)) l[k] s[k]] := by
  rw [take_snoc_get l k h, take_snoc_get s k h']
  exact ratesGo_snoc _ _ _ _ _ (by simp; omega)
theorem ratesGo_len (l : List Clk) : ∀ (s : List Int) (out : List Rt), l.length = s.length → (ratesGo l s out).length = out.length + l.length := by
  induction l with
  | nil => intro s out h; simp [ratesGo]
  | cons d l ih =>
    intro s out h
    cases s with
    | nil => simp at h
    | cons j s => rw [ratesGo, ih s _ (by simpa using h)]; simp; omega
theorem rts_len (l : List Clk) (s : List Int) (h : l.length = s.length) : (rts l s).length = l.length := by simp [rts, ratesGo_len l s [] h]
theorem pow64_le {t t' : Nat} (h : t ≤ t') : (64 : Int) ^ t ≤ 64 ^ t' := by
  have h1 := Nat.pow_le_pow_right (show 0 < 64 by omega) h
  have e1 : ((64 ^ t : Nat) : Int) = (64 : Int) ^ t := Int.natCast_pow 64 t
  have e2 : ((64 ^ t' : Nat) : Int) = (64 : Int) ^ t' := Int.natCast_pow 64 t'
  omega
theorem pow64_pos (t : Nat) : (1 : Int) ≤ 64 ^ t := by
  have := pow64_le (Nat.zero_le t)
  simpa using this
def RtOk (t : Nat) (r : Rt) : Prop := ∀ n d, r = some (n, d) → validB n d = true ∧ 1 ≤ n ∧ n ≤ 4000000000 * 64 ^ t ∧ d ≤ 64 ^ t
theorem RtOk.mono {t t' : Nat} {r : Rt} (h : RtOk t r) (ht : t ≤ t') : RtOk t' r := fun n d e => by
  obtain ⟨h1, h2, h3, h4⟩ := h n d e
  have hp := pow64_le ht
  exact ⟨h1, h2, by have := Int.mul_le_mul_of_nonneg_left hp (show (0 : Int) ≤ 4000000000 by omega); omega, by omega⟩
theorem pow4 {t : Nat} (h : t ≤ 4) : (64 : Int) ^ t ≤ 16777216 := by
  have : (64 : Int) ^ t ≤ 64 ^ 4 := pow64_le h
  simpa using this
theorem new_bounds (n d : Int) (h0 : 1 ≤ n) (h1 : n ≤ 144115188075855872) (hd : 1 ≤ d) (hd1 : d ≤ 16777216) :
    validB (newN n d) (newD n d) = true ∧ 1 ≤ newN n d ∧ newN n d ≤ n ∧ newD n d ≤ d ∧ newE n d = 0 := by
  have ho := okNew_of n d (by omega) h1 hd hd1
  obtain ⟨hv, hx, he⟩ := new_ok n d ho
  have hg := gcd_bounds n d hd
  have v := valid_parts hv
  have e1 := ediv_bounds n (Int.gcd n d) (by omega) hg.1
  have e2 := ediv_bounds d (Int.gcd n d) (by omega) hg.1
  refine ⟨hv, ?_, ?_, ?_, he⟩
  · rcases Int.lt_or_le 0 (newN n d) with q | q
    · omega
    · have : newN n d = 0 := by omega
      rw [this, Int.zero_mul] at hx
      have := Int.mul_pos (show (0 : Int) < n by omega) (show 0 < newD n d by omega)
      omega
  · rw [newN, if_pos ho]; exact e1.2
  · rw [newD, if_pos ho]; exact e2.2
theorem over_bounds {t : Nat} {n d k : Int} (hv : validB n d = true) (h1 : 1 ≤ n) (h2 : n ≤ 4000000000 * 64 ^ t) (h3 : d ≤ 64 ^ t) (k0 : 1 ≤ k) (k1 : k ≤ 64) (ht : t + 1 ≤ 4) :
    RtOk (t + 1) (some (oN n d k, oD n d k)) := by
  have v := valid_parts hv
  have p4 := pow4 (t := t) (by omega)
  have p5 := pow4 ht
  have ps : (64 : Int) ^ (t + 1) = 64 ^ t * 64 := Int.pow_succ 64 t
  have hm := pow64_le (show t ≤ t + 1 by omega)
  have hdk : d * k ≤ 64 ^ t * 64 := Int.mul_le_mul h3 k1 (by omega) (by omega)
  have hdk1 : 1 ≤ d * k := by
    have := Int.mul_pos (show 0 < d by omega) (show 0 < k by omega); omega
  have hn := new_bounds n (d * k) h1 v.2.1 hdk1 (by omega)
  have ho := over_new n d k (by omega) v.2.2.1 k0
  have hok : okFac n d k = true := by simp [okFac, hv]; omega
  intro n' d' e
  have e1 : oN n d k = newN n (d * k) := by rw [oN, if_pos hok, ho.2.1]
  have e2 : oD n d k = newD n (d * k) := by rw [oD, if_pos hok, ho.2.2]
  simp only [Option.some.injEq, Prod.mk.injEq] at e
  obtain ⟨rfl, rfl⟩ := e
  rw [e1, e2]
  exact ⟨hn.1, hn.2.1, by omega, by omega⟩
theorem times_bounds {t : Nat} {n d k : Int} (hv : validB n d = true) (h1 : 1 ≤ n) (h2 : n ≤ 4000000000 * 64 ^ t) (h3 : d ≤ 64 ^ t) (k0 : 1 ≤ k) (k1 : k ≤ 64) (ht : t + 1 ≤ 4) :
    RtOk (t + 1) (some (tN n d k, tD n d k)) := by
  have v := valid_parts hv
  have p4 := pow4 (t := t) (by omega)
  have p5 := pow4 ht
  have ps : (64 : Int) ^ (t + 1) = 64 ^ t * 64 := Int.pow_succ 64 t
  have hm := pow64_le (show t ≤ t + 1 by omega)
  have hq := div_gcd_left k d k0
  have hg := gcd_bounds_left k d k0
  have hgd := gcd_bounds k d v.2.2.1
  have hde := ediv_bounds d (Int.gcd k d) (by omega) hg.1
  have hd1 : 1 ≤ d / (Int.gcd k d : Int) := by
    have h5 := Int.le_ediv_of_mul_le (a := 1) (b := d) (c := (Int.gcd k d : Int)) (by omega) (by omega)
    exact h5
  have hnk : n * (k / (Int.gcd k d : Int)) ≤ 4000000000 * 64 ^ t * 64 := Int.mul_le_mul h2 (by omega) (by omega) (by have := pow64_pos t; omega)
  have hnk1 : 1 ≤ n * (k / (Int.gcd k d : Int)) := by
    have := Int.mul_pos (show 0 < n by omega) (show 0 < k / (Int.gcd k d : Int) by omega); omega
  have hbig : ¬ tmBig n d k := by
    unfold tmBig
    have : n ≤ 144115188075855872 / (k / (Int.gcd k d : Int)) := Int.le_ediv_of_mul_le (by omega) (by omega)
    omega
  have hn := new_bounds (n * (k / (Int.gcd k d : Int))) (d / (Int.gcd k d : Int)) hnk1 (by omega) hd1 (by omega)
  have hok : okFac n d k = true := by simp [okFac, hv]; omega
  intro n' d' e
  have e1 : tN n d k = newN (n * (k / (Int.gcd k d : Int))) (d / (Int.gcd k d : Int)) := by rw [tN, if_pos hok, tmN, tmD, if_neg hbig, if_neg hbig]
  have e2 : tD n d k = newD (n * (k / (Int.gcd k d : Int))) (d / (Int.gcd k d : Int)) := by rw [tD, if_pos hok, tmN, tmD, if_neg hbig, if_neg hbig]
  simp only [Option.some.injEq, Prod.mk.injEq] at e
  obtain ⟨rfl, rfl⟩ := e
  rw [e1, e2]
  exact ⟨hn.1, hn.2.1, by omega, by omega⟩
end Go.Proofs.YtenehghpmnajpaaGreatDoor
/-! The rates of right clocks are valid, and greater than nought where the clock runs. No program in sight. -/
set_option linter.unusedVariables false
set_option linter.unusedSimpArgs false
namespace Go.Proofs.YtenehghpmnajpaaGreatDoor
open Go.RowKit
theorem maxAt_ge (out : List Int) : ∀ (ps : List Int) (n : Int), n ≤ maxAt out ps n ∧ ∀ p ∈ ps, out.getD p.toNat 0 ≤ maxAt out ps n
  | [], n => ⟨Int.le_refl _, fun p h => absurd h (by simp)⟩
  | q :: ps, n => by
    obtain ⟨h1, h2⟩ := maxAt_ge out ps (max n (out.getD q.toNat 0))
    simp only [maxAt]
    refine ⟨by omega, fun p hp => ?_⟩
    rcases List.mem_cons.1 hp with rfl | hp
    · omega
    · exact h2 p hp
theorem par_lt {c : Clk} {i : Nat} {k : Int} (h : ClkOk c i) (h1 : c.kind ≠ 1) (k0 : 0 ≤ k) (k1 : k < c.choices.length) : parC c k ∈ c.parents ∧ 0 ≤ parC c k ∧ parC c k < i := by
  obtain ⟨hp, hc, _⟩ := h
  have hmem : parC c k ∈ c.parents := by
    unfold parC
    rw [if_neg h1]
    have h0 : ∀ j, j < c.parents.length → c.parents.getD j 0 ∈ c.parents := fun j hj => by
      rw [List.getD_eq_getElem?_getD, List.getElem?_eq_getElem hj]; exact List.getElem_mem hj
    by_cases h4 : c.kind = 4
    · rw [if_pos h4]
      rcases hc with ⟨h, _⟩ | ⟨h, _⟩ | ⟨_, hl, _, hd⟩ | ⟨h, _⟩
      · omega
      · omega
      · obtain ⟨_, d1, d2, _⟩ := hd k.toNat (by omega)
        have e : chC c k = c.choices[k.toNat]'(by omega) := by
          rw [chC, List.getD_eq_getElem?_getD, List.getElem?_eq_getElem (by omega)]; rfl
        exact h0 _ (by rw [e]; omega)
      · omega
    · rw [if_neg h4]
      refine h0 0 ?_
      rcases hc with ⟨h, _⟩ | ⟨_, hl, _⟩ | ⟨h, _⟩ | ⟨_, hl, _⟩
      · exact absurd h h1
      · omega
      · exact absurd h h4
      · omega
  obtain ⟨j, hj, e⟩ := List.getElem_of_mem hmem
  have := hp j hj
  rw [e] at this
  exact ⟨hmem, this⟩
theorem ch_of {c : Clk} {k : Int} (k0 : 0 ≤ k) (k1 : k < c.choices.length) : ∃ h : k.toNat < c.choices.length, chC c k = c.choices[k.toNat] := by
  refine ⟨by omega, ?_⟩
  rw [chC, List.getD_eq_getElem?_getD, List.getElem?_eq_getElem (by omega)]; rfl
theorem valid_one {x : Int} (h0 : 1 ≤ x) (h1 : x ≤ 4000000000) : validB x 1 = true := by
  simp [validB]; omega
theorem step_ok {out : List Rt} {F : List Int} {c : Clk} {i : Nat} {k : Int} (hF : ∀ x ∈ F, 0 ≤ x) (hl : out.length = i) (hlF : F.length = i) (h : ClkOk c i) (k0 : 0 ≤ k) (k1 : k < c.choices.length)
    (hf : facStep F c ≤ 4) (ho : ∀ j (hj : j < out.length), RtOk (F.getD j 0).toNat out[j]) : RtOk (facStep F c).toNat (stepR out c k) := by
  have hmx := maxAt_ge F c.parents 0
  by_cases h1 : c.kind = 1
  · obtain ⟨_, hc, _⟩ := h
    rcases hc with ⟨_, _, hl1, q0, q1⟩ | ⟨h, _⟩ | ⟨h, _⟩ | ⟨h, _⟩
    · obtain ⟨hk, e⟩ := ch_of k0 k1
      have e0 : k.toNat = 0 := by omega
      rw [stepR, if_pos h1, e]
      simp only [e0]
      have hfz : 0 ≤ facStep F c := by have : 0 ≤ isFac c := by (unfold isFac; split <;> omega)
                                       unfold facStep; omega
      refine RtOk.mono (t := 0) (fun n d e => ?_) (Nat.zero_le _)
      simp only [Option.some.injEq, Prod.mk.injEq] at e
      obtain ⟨rfl, rfl⟩ := e
      exact ⟨valid_one q0 q1, q0, by simp; omega, by simp⟩
    · omega
    · omega
    · omega
  · obtain ⟨hm, p0, p1⟩ := par_lt h h1 k0 k1
    have hp : (parC c k).toNat < out.length := by omega
    have hR := ho _ hp
    have hge := hmx.2 _ hm
    have e : out.getD (parC c k).toNat none = out[(parC c k).toNat] := by
      rw [List.getD_eq_getElem?_getD, List.getElem?_eq_getElem hp]; rfl
    rw [stepR, if_neg h1, e]
    cases hr : out[(parC c k).toNat] with
    | none => intro n d e; cases e
    | some nd =>
      obtain ⟨n, d⟩ := nd
      rw [hr] at hR
      obtain ⟨v1, v2, v3, v4⟩ := hR n d rfl
      have hFp : 0 ≤ F.getD (parC c k).toNat 0 := by
        rw [List.getD_eq_getElem?_getD, List.getElem?_eq_getElem (by omega)]
        exact hF _ (List.getElem_mem (by omega))
      show RtOk _ (scaleR c (chC c k) n d)
      have hfac : c.kind = 2 ∨ c.kind = 3 → 1 ≤ chC c k ∧ chC c k ≤ 64 := fun hk => by
        obtain ⟨hk', e'⟩ := ch_of k0 k1
        rcases h.2.1 with ⟨h, _⟩ | ⟨_, _, _, hd⟩ | ⟨h, _⟩ | ⟨h, _⟩
        · omega
        · obtain ⟨_, d1, d2, _⟩ := hd _ hk'; rw [e']; exact ⟨d1, d2⟩
        · omega
        · omega
      unfold scaleR
      by_cases h2 : c.kind = 2
      · rw [if_pos h2]
        have hi : isFac c = 1 := by simp [isFac, h2]
        unfold facStep at hf ⊢
        rw [hi] at hf ⊢
        refine RtOk.mono (over_bounds v1 v2 v3 v4 (hfac (.inl h2)).1 (hfac (.inl h2)).2 (by omega)) (by omega)
      · rw [if_neg h2]
        by_cases h3 : c.kind = 3
        · rw [if_pos h3]
          have hi : isFac c = 1 := by simp [isFac, h3]
          unfold facStep at hf ⊢
          rw [hi] at hf ⊢
          refine RtOk.mono (times_bounds v1 v2 v3 v4 (hfac (.inr h3)).1 (hfac (.inr h3)).2 (by omega)) (by omega)
        · rw [if_neg h3]
          have hi : isFac c = 0 := by simp [isFac, h2, h3]
          split
          · intro n d e; cases e
          · unfold facStep
            rw [hi]
            exact RtOk.mono (t := (F.getD (parC c k).toNat 0).toNat) (fun n' d' e => by cases e; exact ⟨v1, v2, v3, v4⟩) (by omega)
theorem rts_ok_take {l : List Clk} {s : List Int} (hok : AllOk l) (hf : ∀ x ∈ facs l, x ≤ 4) (hs : SetOk l s) : ∀ k, k ≤ l.length → ∀ j (hj : j < (rts (l.take k) (s.take k)).length), RtOk ((facs (l.take k)).getD j 0).toNat (rts (l.take k) (s.take k))[j] := by
  intro k
  induction k with
  | zero => intro _ j hj; simp [rts, ratesGo] at hj
  | succ k ih =>
    intro hk j hj
    have hk' : k < l.length := by omega
    have hks : k < s.length := by rw [hs.1]; exact hk'
    have hlen : (rts (l.take k) (s.take k)).length = k := by rw [rts_len _ _ (by simp; omega)]; simp; omega
    have hlf : (facs (l.take k)).length = k := by rw [facs_len]; simp; omega
    have e := rts_take l s k hk' hks
    have ef := facs_take l k hk'
    obtain ⟨_, hc⟩ := hok k hk'
    have hset := hs.2 k hk' hks
    have hstep := step_ok (F := facs (l.take k)) (out := rts (l.take k) (s.take k)) (c := l[k]) (i := k) (k := s[k]) (fun x hx => (facs_bounds _ x hx).1) hlen hlf hc hset.1 hset.2 (by
      refine hf _ ?_
      have e2 : facs l = facsGo (l.drop (k + 1)) (facs (l.take (k + 1))) := by
        conv => lhs; rw [← List.take_append_drop (k + 1) l]
        have : ∀ (a b : List Clk) out, facsGo (a ++ b) out = facsGo b (facsGo a out) := by
          intro a b
          induction a with
          | nil => intro out; rfl
          | cons c a ih => intro out; simp only [List.cons_append, facsGo]; exact ih _
        exact this _ _ _
      have hm : ∀ (b : List Clk) (out : List Int), ∀ x ∈ out, x ∈ facsGo b out := by
        intro b
        induction b with
        | nil => intro out x hx; exact hx
        | cons c b ih => intro out x hx; exact ih _ x (List.mem_append_left _ hx)
      rw [e2]
      exact hm _ _ _ (by rw [ef]; simp)) (ih (by omega))
    simp only [e, ef]
    rw [e, List.length_append, hlen] at hj
    by_cases hjk : j < k
    · have := ih (by omega) j (by rw [hlen]; exact hjk)
      rw [List.getElem_append_left (by rw [hlen]; exact hjk), List.getD_eq_getElem?_getD, List.getElem?_append_left (by rw [hlf]; exact hjk), ← List.getD_eq_getElem?_getD]
      exact this
    · have : j = k := by simp at hj; omega
      subst this
      rw [List.getElem_append_right (by omega), List.getD_eq_getElem?_getD, List.getElem?_append_right (by omega)]
      simp only [hlen, hlf, Nat.sub_self, List.getElem_cons_zero, List.getElem?_cons_zero, Option.getD_some]
      exact hstep
end Go.Proofs.YtenehghpmnajpaaGreatDoor
/-! Contract of clock.parent. -/
set_option linter.unusedVariables false
set_option linter.unusedSimpArgs false
namespace Go.Proofs.YtenehghpmnajpaaGreatDoor
open Go.RowKit
open Classical
theorem pParent_any (l : List Clk) (s : List Int) (al aS : Option Addr) (cl cs i : Nat) (w : World) (h : SlOf 5 RClk w al l) (hs : SlOf 1 RI w aS s) (hi : i < l.length) (hi' : i < s.length) (hl : l.length ≤ 16) (hc : ClkOk l[i] i) (k0 : 0 ≤ s[i]) (k1 : s[i] < l[i].choices.length) (fs : s.length ≤ 16) :
    Calls Tryz.prog 157 #[.slice al l.length cl, .slice aS s.length cs, .int .i64 i] w (Grows w (.int .i64 (parC l[i] s[i]))) := by
  obtain ⟨b, o, rfl, ⟨c0, _⟩, ⟨ap, cp, c1, c1l, c1f, sp⟩, ⟨ac, cc, c2, c2l, c2f, sc⟩, ⟨c4, _⟩, c5, _⟩ := h i hi
  have i1 : (i : Int) < l.length := by omega
  have i2 : (i : Int) < s.length := by omega
  by_cases h1 : l[i].kind = 1
  · have b1 : (l[i].kind == 1) = true := by simp [h1]
    have HP := Lib.hid (show parC l[i] s[i] = -1 by rw [parC, if_pos h1])
    clear h hs hc sp sc c1f c2f h1
    go_enter Tryz.func157, Tryz.ntmps157
    go_wp2_with fail
    go_ret
    exact ⟨ret_int HP.out.symm, (Gr.refl _).alloc _⟩
  · have b1 : (l[i].kind == 1) = false := by simp [h1]
    obtain ⟨hm, p0, p1⟩ := par_lt hc h1 k0 k1
    by_cases h4 : l[i].kind = 4
    · have b4 : (l[i].kind == 4) = true := by simp [h4]
      obtain ⟨hk, e⟩ := ch_of k0 k1
      obtain ⟨bs, os, rfl, ⟨q1, y1⟩⟩ := hs.one i hi'
      obtain ⟨bc, oc, rfl, ⟨q2, y2⟩⟩ := sc.one _ hk
      have hcb : 0 ≤ l[i].choices[s[i].toNat] ∧ l[i].choices[s[i].toNat] ≤ (l[i].parents.length : Int) - 1 := by
        rcases hc.2.1 with ⟨h, _⟩ | ⟨h, _⟩ | ⟨_, _, _, hd⟩ | ⟨h, _⟩
        · omega
        · omega
        · obtain ⟨_, d1, d2, _⟩ := hd _ hk; exact ⟨d1, d2⟩
        · omega
      have hpl : (l[i].choices[s[i].toNat]).toNat < l[i].parents.length := by omega
      obtain ⟨bp, op, rfl, ⟨q3, y3⟩⟩ := sp.one _ hpl
      have HP := Lib.hid (show parC l[i] s[i] = l[i].parents[(l[i].choices[s[i].toNat]).toNat] by
        rw [parC, if_neg h1, if_pos h4, e, List.getD_eq_getElem?_getD, List.getElem?_eq_getElem hpl]; rfl)
      obtain ⟨k, hk'⟩ : ∃ k : Nat, s[i] = k := ⟨_, (Int.toNat_of_nonneg k0).symm⟩
      obtain ⟨j, hj⟩ : ∃ j : Nat, l[i].choices[s[i].toNat] = j := ⟨_, (Int.toNat_of_nonneg hcb.1).symm⟩
      obtain ⟨y, hy⟩ : ∃ y : Int, l[i].parents[(l[i].choices[s[i].toNat]).toNat] = y := ⟨_, rfl⟩
      rw [hy] at q3 HP
      have q2' : w.cell? ⟨bc, oc + k, none⟩ = some (.int .i64 j) := by
        have e1 : s[i].toNat = k := by omega
        rw [← hj, ← e1]; exact q2
      have q3' : w.cell? ⟨bp, op + j, none⟩ = some (.int .i64 y) := by
        have e1 : (l[i].choices[s[i].toNat]).toNat = j := by omega
        rw [← e1]; exact q3
      have k2 : (k : Int) < l[i].choices.length := by omega
      have j2 : (j : Int) < l[i].parents.length := by omega
      rw [hk'] at q1
      have x1 := has_of_cell q1
      have x2 := has_of_cell q2'
      have x3 := has_of_cell q3'
      clear y1 y2 y3 h hs hc sp sc c1f c2f h1 h4 q2 q3 hk e hm p0 p1 hcb hpl hj hy hk' k0 k1
      go_enter Tryz.func157, Tryz.ntmps157
      go_wp2_with fail
      go_quiet (fail)
      go_wp2_with fail
      go_ret
      exact ⟨ret_int HP.out.symm, by repeat (first | with_reducible exact Gr.refl _ | with_reducible refine Gr.drewN _ ?_ | with_reducible refine Gr.alloc _ ?_)⟩
    · have b4 : (l[i].kind == 4) = false := by simp [h4]
      have hl0 : 0 < l[i].parents.length := List.length_pos_of_mem hm
      obtain ⟨bp, op, rfl, ⟨q3, y3⟩⟩ := sp.one 0 hl0
      have HP := Lib.hid (show parC l[i] s[i] = l[i].parents[0] by
        rw [parC, if_neg h1, if_neg h4, List.getD_eq_getElem?_getD, List.getElem?_eq_getElem hl0]; rfl)
      have j2 : (0 : Int) < l[i].parents.length := by omega
      rw [Nat.add_zero] at q3
      have x3 := has_of_cell q3
      clear y3 h hs hc sp sc c1f c2f h1 h4 hm p0 p1
      go_enter Tryz.func157, Tryz.ntmps157
      go_wp2_with fail
      go_ret
      exact ⟨ret_int HP.out.symm, (Gr.refl _).alloc _⟩
end Go.Proofs.YtenehghpmnajpaaGreatDoor


/-! Lists of rates in memory; the variable off. -/
set_option linter.unusedVariables false
set_option linter.unusedSimpArgs false
namespace Go.Proofs.YtenehghpmnajpaaGreatDoor
open Go.RowKit
open Classical
def OffV (w : World) : Prop := w.cell? ⟨0, 0, none⟩ = some (.int .i64 0) ∧ w.cell? ⟨0, 1, none⟩ = some (.int .i64 1)
theorem OffV.gr {w w' : World} (h : OffV w) (hg : Gr w w') : OffV w' := ⟨cell_gr hg h.1, cell_gr hg h.2⟩
def numR (r : Rt) : Int := match r with | some (n, _) => n | none => 0
def denR (r : Rt) : Int := match r with | some (_, d) => d | none => 1
def prR (r : Rt) : Int × Int := (numR r, denR r)
def encP (ps : List (Int × Int)) : List Value := ps.flatMap fun r => [.int .i64 r.1, .int .i64 r.2]
theorem encP_len (ps : List (Int × Int)) : (encP ps).length = ps.length * 2 := flat_len (fun r : Int × Int => [.int .i64 r.1, .int .i64 r.2]) 2 (fun _ => rfl) ps
theorem encP_at (ps : List (Int × Int)) (i : Nat) (h : i < ps.length) : (encP ps)[i * 2]'(by rw [encP_len]; omega) = .int .i64 ps[i].1 ∧ (encP ps)[i * 2 + 1]'(by rw [encP_len]; omega) = .int .i64 ps[i].2 := by
  have h0 := flat_at (fun r : Int × Int => [Value.int .i64 r.1, .int .i64 r.2]) 2 (fun _ => rfl) ps i 0 h (by omega)
  have h1 := flat_at (fun r : Int × Int => [Value.int .i64 r.1, .int .i64 r.2]) 2 (fun _ => rfl) ps i 1 h (by omega)
  rw [Nat.add_zero] at h0
  exact ⟨Option.some.inj ((List.getElem?_eq_getElem (by rw [encP_len]; omega)).symm.trans h0), Option.some.inj ((List.getElem?_eq_getElem (by rw [encP_len]; omega)).symm.trans h1)⟩
theorem encP_set (ps : List (Int × Int)) : ∀ (i : Nat) (n d : Int), ((encP ps).set (i * 2) (.int .i64 n)).set (i * 2 + 1) (.int .i64 d) = encP (ps.set i (n, d)) := by
  induction ps with
  | nil => intro i n d; simp [encP]
  | cons p ps ih =>
    intro i n d
    cases i with
    | zero => simp [encP]
    | succ i =>
      have := ih i n d
      simp only [encP, List.flatMap_cons, List.set_cons_succ, List.cons_append, List.nil_append] at this ⊢
      rw [show (i + 1) * 2 = i * 2 + 1 + 1 by omega]
      simp only [List.set_cons_succ]
      rw [this]
def ratV (l : List Clk) (s : List Int) (k : Nat) : List (Int × Int) := (rts (l.take k) (s.take k)).map prR ++ List.replicate (l.length - k) (0, 0)
theorem ratV_len (l : List Clk) (s : List Int) (k : Nat) (h : k ≤ l.length) (hs : s.length = l.length) : (ratV l s k).length = l.length := by
  simp only [ratV, List.length_append, List.length_map, List.length_replicate]
  rw [rts_len _ _ (by simp; omega)]; simp; omega
theorem ratV_low (l : List Clk) (s : List Int) (k : Nat) (h : k ≤ l.length) (hs : s.length = l.length) (q : Nat) (hq : q < k) : (ratV l s k)[q]'(by rw [ratV_len l s k h hs]; omega) = prR ((rts (l.take k) (s.take k)).getD q none) := by
  have hl : (rts (l.take k) (s.take k)).length = k := by rw [rts_len _ _ (by simp; omega)]; simp; omega
  simp only [ratV]
  rw [List.getElem_append_left (by simp; omega), List.getElem_map, List.getD_eq_getElem?_getD, List.getElem?_eq_getElem (by omega)]; rfl
theorem ratV_step (l : List Clk) (s : List Int) (k : Nat) (h : k < l.length) (hs : s.length = l.length) : (ratV l s k).set k (prR (stepR (rts (l.take k) (s.take k)) l[k] (s[k]'(by omega)))) = ratV l s (k + 1) := by
  have hl : (rts (l.take k) (s.take k)).length = k := by rw [rts_len _ _ (by simp; omega)]; simp; omega
  have hr : List.replicate (l.length - k) ((0, 0) : Int × Int) = (0, 0) :: List.replicate (l.length - (k + 1)) (0, 0) := by
    rw [show l.length - k = (l.length - (k + 1)) + 1 by omega, List.replicate_succ]
  simp only [ratV]
  rw [List.set_append_right _ _ (by simp; omega), List.length_map, hl, Nat.sub_self, hr, List.set_cons_zero, rts_take l s k h (by omega), List.map_append, List.append_assoc]
  rfl
theorem made_pair (n : Nat) : (madeCells #[Value.int .i64 0, .int .i64 0] (n * 2)).toList = encP (List.replicate n (0, 0)) := by
  apply List.ext_getElem
  · rw [encP_len]; simp [madeCells]
  · intro i h1 h2
    have hz : ∀ v ∈ encP (List.replicate n (0, 0)), v = .int .i64 0 := by
      intro v hv
      simp only [encP, List.mem_flatMap] at hv
      obtain ⟨p, hp, hv⟩ := hv
      obtain ⟨_, rfl⟩ := List.mem_replicate.1 hp
      simpa using hv
    rw [hz _ (List.getElem_mem h2)]
    have hm : ∀ v ∈ (madeCells #[Value.int .i64 0, .int .i64 0] (n * 2)).toList, v = .int .i64 0 := by
      intro v hv
      simp only [madeCells, Array.toList_map, List.mem_map] at hv
      obtain ⟨j, _, rfl⟩ := hv
      rcases Nat.mod_two_eq_zero_or_one j with e | e <;> simp [e]
    exact hm _ (List.getElem_mem h1)
theorem infoRate : (Tryz.prog.info? 93).map (fun i => (i.zero, i.size, i.bytes)) = some (some (.agg #[.int .i64 0, .int .i64 0]), 2, 16) := by kernel_rfl
end Go.Proofs.YtenehghpmnajpaaGreatDoor
/-! Contract of clock.rates. -/
set_option linter.unusedVariables false
set_option linter.unusedSimpArgs false
namespace Go.Proofs.YtenehghpmnajpaaGreatDoor
open Go.RowKit
open Classical
theorem ratV_full (l : List Clk) (s : List Int) (hs : s.length = l.length) : ratV l s l.length = (rts l s).map prR := by
  simp only [ratV, List.take_length, Nat.sub_self, List.replicate_zero, List.append_nil]
  rw [List.take_of_length_le (by omega)]
def GivesRates (w : World) (l : List Clk) (s : List Int) (e : Ending) (w' : World) : Prop :=
  ∃ RB, e = .returned (.slice (some ⟨RB, 0, none⟩) l.length l.length) ∧ Row w' RB 93 (encP ((rts l s).map prR)) ∧ w.heap.size ≤ RB ∧ Gr w w'
def stepP (c : Clk) (h : Int) : Rt → Rt
  | none => none
  | some (n, d) => scaleR c h n d
theorem stepR_of {out : List Rt} {c : Clk} {k : Int} (h1 : c.kind ≠ 1) : stepR out c k = stepP c (chC c k) (out.getD (parC c k).toNat none) := by
  rw [stepR, if_neg h1]
  cases out.getD (parC c k).toNat none <;> rfl
theorem eql_rate (a b c d : Int) (w : World) : (binOp .eql 93 (.agg #[.int .i64 a, .int .i64 b]) (.agg #[.int .i64 c, .int .i64 d])).run Tryz.prog w = .ok (.bool (a == c && b == d)) w := by
  have hu : Tryz.prog.underlying 93 = some (.struct (Tryz.prog.fieldsOf 93)) := by kernel_rfl
  have hs : Tryz.prog.stoodInHeld 93 = false := by kernel_rfl
  rw [run_eql_struct, run_equalIn_agg w 9999 _ _ _ hu hs]
  cases h1 : (a == c) <;> cases h2 : (b == d) <;> simp [go_sem, h1, h2]
theorem rates_any (l : List Clk) (s : List Int) (al aS : Option Addr) (cl cs : Nat) (w : World) (h : SlOf 5 RClk w al l) (hs : SlOf 1 RI w aS s) (hc : cchk l = 0) (hset : SetOk l s) (hoff : OffV w) :
    Calls Tryz.prog 134 #[.slice al l.length cl, .slice aS s.length cs] w (GivesRates w l s) := by
  obtain ⟨nb, ok, pr, fs⟩ := cchk_zero hc
  have hl := small_len nb
  have H := Lib.hid h
  have HS := Lib.hid hs
  have OK := Lib.hid ok
  have HT := Lib.hid hset
  have HO := Lib.hid hoff
  have NB := Lib.hid nb
  have RO := Lib.hid (rts_ok_take ok fs hset)
  clear h hs ok hset hoff hc nb pr fs
  obtain ⟨j0, hj, hy0, hy1, hy2⟩ := info_parts infoRate
  have hmk : ∀ W : World, (Instr.makeSlice 87 (.int .i64 (l.length : Int)) (.int .i64 (l.length : Int))).run Tryz.prog W = .ok (.slice (some ⟨W.heap.size, 0, none⟩) l.length l.length) (W.alloc (.cells (madeCells #[.int .i64 0, .int .i64 0] (l.length * 2)) 93)) := fun W => by
    have hr := run_make (P := Tryz.prog) W 87 93 j0 (.agg #[.int .i64 0, .int .i64 0]) Tryz.underlying87 hj hy0 .i64 .i64 l.length l.length (by omega) (Int.le_refl _) (by rw [hy2]; omega) (by omega)
    simp only [Int.toNat_natCast, hy1] at hr
    exact hr
  go_enter Tryz.func134, Tryz.ntmps134
  go_wp2_with fail
  obtain ⟨W2, hW2⟩ : ∃ W2 : World, Hid (W2 = w.alloc (.cells (madeCells #[.int .i64 0, .int .i64 0] (l.length * 2)) 93)) := ⟨_, Lib.hid rfl⟩
  rw [← hW2.out]
  obtain ⟨RB, hRB⟩ : ∃ RB : Nat, Hid (w.heap.size = RB) := ⟨_, Lib.hid rfl⟩
  rw [hRB.out]
  have R2 : Hid (Row W2 RB 93 (encP (ratV l s 0))) := Lib.hid (by
    rw [hW2.out, ← hRB.out]
    have := Row.new w (madeCells #[.int .i64 0, .int .i64 0] (l.length * 2)) 93
    rw [made_pair] at this
    simpa [ratV, rts, ratesGo] using this)
  have HG2 : Hid (Gr w W2) := Lib.hid (by rw [hW2.out]; exact (Gr.refl _).alloc _)
  have rb : Hid (w.heap.size ≤ RB) := Lib.hid (by rw [hRB.out]; exact Nat.le_refl _)
  clear hW2 hmk
  go_loopw [15] (fun i wr => ∃ k : Nat, k ≤ l.length ∧ i = .int .i64 k ∧ Row wr RB 93 (encP (ratV l s k)) ∧ Gr w wr) (fun i _ => l.length - (intOf i).toNat)
  case atStart => exact ⟨0, Nat.zero_le _, rfl, R2.out, HG2.out⟩
  case round =>
    clear R2 HG2
    obtain ⟨k, hk, rfl, hr, hg⟩ := hrel
    have HR := Lib.hid hr
    have HG := Lib.hid hg
    clear hr hg
    obtain ⟨wo, rfl⟩ : ∃ wo : World, wo = wr := ⟨_, rfl⟩
    by_cases hlt : k < l.length
    · have hls : k < s.length := by have := HT.out.1; omega
      obtain ⟨k0, k1⟩ := HT.out.2 k hlt hls
      obtain ⟨_, hck⟩ := OK.out k hlt
      obtain ⟨fp, fc⟩ := small_at NB.out hlt
      have hpar := pParent_any l s al aS cl cs k
      have CK := Lib.hid hck
      obtain ⟨b, o, rfl, ⟨c0, _⟩, ⟨ap, cp, c1, c1l, c1f, sp⟩, ⟨ac, cc, c2, c2l, c2f, sc⟩, ⟨c4, _⟩, c5, _⟩ := clks_gr H.out HG.out k hlt
      obtain ⟨bs, os, rfl, ⟨q1, y1⟩⟩ := (HS.out.giI HG.out).one k hls
      obtain ⟨hkk, e⟩ := ch_of k0 k1
      obtain ⟨bc, oc, rfl, ⟨q2, y2⟩⟩ := sc.one _ hkk
      rw [← e] at q2 y2
      obtain ⟨j, hj⟩ : ∃ j : Nat, s[k] = j := ⟨_, (Int.toNat_of_nonneg k0).symm⟩
      obtain ⟨x, hx⟩ : ∃ x : Int, chC l[k] s[k] = x := ⟨_, rfl⟩
      rw [hx] at q2 y2
      have e1 : s[k].toNat = j := by omega
      rw [e1] at q2
      rw [hj] at q1
      have j2 : (j : Int) < l[k].choices.length := by omega
      have l1 : (k : Int) < l.length := by omega
      have l2 : (k : Int) < s.length := by omega
      have x1 := has_of_cell q1
      have x2 := has_of_cell q2
      have HX := Lib.hid hx
      have HJ := Lib.hid hj
      have PAR := Lib.hid hpar
      have KK := Lib.hid (show 0 ≤ s[k] ∧ s[k] < l[k].choices.length from ⟨k0, k1⟩)
      have SL : Hid (s.length ≤ 16) := Lib.hid (by have := HT.out.1; omega)
      clear hpar hck sp sc c1f c2f hkk e hx hj e1 y1 k0 k1
      unfold Wide at y2
      go_wp2_with fail
      go_quiet (fail)
      go_wp2_with fail
      obtain ⟨W3, hW3⟩ : ∃ W3 : World, Hid (W3 = (wo.alloc (.cells #[.int .i64 l[k].kind, .slice ap l[k].parents.length cp, .slice (some ⟨bc, oc, none⟩) l[k].choices.length cc, .int .i64 l[k].low, .int .i64 l[k].high] 79)).drewN nq) := ⟨_, Lib.hid rfl⟩
      rw [← hW3.out]
      obtain ⟨B8, hB8⟩ : ∃ B8 : Nat, Hid (wo.heap.size = B8) := ⟨_, Lib.hid rfl⟩
      rw [hB8.out]
      have RX : Hid (Row W3 B8 79 [.int .i64 l[k].kind, .slice ap l[k].parents.length cp, .slice (some ⟨bc, oc, none⟩) l[k].choices.length cc, .int .i64 l[k].low, .int .i64 l[k].high]) := Lib.hid (by rw [hW3.out, ← hB8.out]; exact (Row.new wo _ _).drewN _)
      have R3 : Hid (Row W3 RB 93 (encP (ratV l s k))) := Lib.hid (by rw [hW3.out]; exact (HR.out.alloc _).drewN _)
      have G3 : Hid (Gr w W3) := Lib.hid (by rw [hW3.out]; exact (HG.out.alloc _).drewN _)
      clear hW3 hB8 HR HG c0 c1 c2 c4 c5 q1 q2 x1 x2
      refine (PAR.out W3 (clks_gr H.out G3.out) (HS.out.giI G3.out) hlt hls hl CK.out KK.out.1 KK.out.2 SL.out).mono ?_
      rintro e W4 ⟨rfl, hg4⟩
      have RX4 := Lib.hid (RX.out.gr hg4)
      have R4 := Lib.hid (R3.out.gr hg4)
      have G4 := Lib.hid (G3.out.trans hg4)
      clear hg4 RX R3 G3
      have STEP := Lib.hid (ratV_step l s k hlt HT.out.1)
      have r0 := RX4.out.cell 0 (by simp)
      have rh := RX4.out.has
      simp only [List.getElem_cons_zero] at r0
      have fin : ∀ n d : Int, prR (stepR (rts (l.take k) (s.take k)) l[k] s[k]) = (n, d) → ∀ W, Gr W4 W → Row ((W.setCell ⟨RB, k * 2, none⟩ (.int .i64 n)).setCell ⟨RB, k * 2 + 1, none⟩ (.int .i64 d)) RB 93 (encP (ratV l s (k + 1))) := fun n d hnd W hW => by
        have := ((R4.out.gr hW).set (k * 2) (.int .i64 n)).set (k * 2 + 1) (.int .i64 d)
        rw [encP_set, ← hnd, STEP.out] at this
        exact this
      have FIN := Lib.hid fin
      clear fin
      by_cases h1 : l[k].kind = 1
      · have hp : parC l[k] s[k] = -1 := by rw [parC, if_pos h1]
        rw [hp]
        have SR := Lib.hid (show stepR (rts (l.take k) (s.take k)) l[k] s[k] = some (x, 1) by rw [stepR, if_pos h1, HX.out])
        have VL := Lib.hid (ratV_len l s k hk HT.out.1)
        have e0 := R4.out.cell (k * 2) (by rw [encP_len, VL.out]; omega)
        have e1 := R4.out.cell (k * 2 + 1) (by rw [encP_len, VL.out]; omega)
        have f0 := R4.out.free (k * 2)
        have f1 := R4.out.free (k * 2 + 1)
        have fh := R4.out.has
        clear hp h1
        go_wp2_with fail
        refine ⟨⟨k + 1, by omega, by go_num, FIN.out x 1 (by rw [SR.out]; rfl) _ (Gr.refl _), (G4.out.setc rb.out).setc rb.out⟩, by simp [intOf]; omega⟩
      · obtain ⟨hm, p0, p1⟩ := par_lt CK.out h1 KK.out.1 KK.out.2
        obtain ⟨q, hq⟩ : ∃ q : Nat, parC l[k] s[k] = q := ⟨_, (Int.toNat_of_nonneg p0).symm⟩
        have hqk : q < k := by omega
        have VL := Lib.hid (ratV_len l s k hk HT.out.1)
        obtain ⟨r, hr⟩ : ∃ r : Rt, (rts (l.take k) (s.take k)).getD q none = r := ⟨_, rfl⟩
        have hat := encP_at (ratV l s k) q (by rw [VL.out]; omega)
        rw [ratV_low l s k hk HT.out.1 q hqk, hr] at hat
        have g0 := R4.out.cell (q * 2) (by rw [encP_len, VL.out]; omega)
        have g1 := R4.out.cell (q * 2 + 1) (by rw [encP_len, VL.out]; omega)
        rw [hat.1] at g0
        rw [hat.2] at g1
        have SR0 : Hid (stepR (rts (l.take k) (s.take k)) l[k] s[k] = stepP l[k] x r) := Lib.hid (by rw [stepR_of h1, hq, Int.toNat_natCast, hr, HX.out])
        have e0 := R4.out.cell (k * 2) (by rw [encP_len, VL.out]; omega)
        have e1 := R4.out.cell (k * 2 + 1) (by rw [encP_len, VL.out]; omega)
        have f0 := R4.out.free (k * 2)
        have f1 := R4.out.free (k * 2 + 1)
        have fh := R4.out.has
        have b1 : (l[k].kind == 1) = false := by simp [h1]
        have o0 := (HO.out.gr G4.out).1
        have o1 := (HO.out.gr G4.out).2
        have oh := has_of_cell o0
        have q2 : (q : Int) < l.length := by omega
        rw [hq]
        have HRr := Lib.hid hr
        have EQ := eql_rate
        clear hat hm p0 p1 hq h1 hr
        cases r with
        | none =>
          simp only [prR, numR, denR] at g0 g1
          go_wp2_with fail
          go_quiet (fail)
          go_wp2_with fail
          refine ⟨⟨k + 1, by omega, by go_num, FIN.out 0 1 (by rw [SR0.out]; rfl) _ (by repeat (first | with_reducible exact Gr.refl _ | with_reducible refine Gr.drewN _ ?_)), by first | exact (G4.out.setc rb.out).setc rb.out | exact ((G4.out.drewN _).setc rb.out).setc rb.out⟩, by simp [intOf]; omega⟩
        | some nd =>
          obtain ⟨n, d⟩ := nd
          have hR : validB n d = true ∧ 1 ≤ n := by
            have hlr : (rts (l.take k) (s.take k)).length = k := by rw [rts_len _ _ (by have := HT.out.1; simp; omega)]; simp; omega
            have h9 := RO.out k hk q (by rw [hlr]; exact hqk)
            have e := HRr.out
            rw [List.getD_eq_getElem?_getD, List.getElem?_eq_getElem (by rw [hlr]; exact hqk)] at e
            obtain ⟨h7, h8, _⟩ := h9 n d e
            exact ⟨h7, h8⟩
          obtain ⟨hv, hn1⟩ := hR
          obtain ⟨v1, v2, v3, v4, v5⟩ := valid_parts hv
          have nb : (n == 0) = false := beq_eq_false_iff_ne.2 (by omega)
          simp only [prR, numR, denR] at g0 g1
          clear hv v5
          by_cases h5 : l[k].kind = 5
          · have b5 : (l[k].kind == 5) = true := by simp [h5]
            have b2 : (l[k].kind == 2) = false := by simp [h5]
            have b3 : (l[k].kind == 3) = false := by simp [h5]
            by_cases hx0 : x = 0
            · have SR := Lib.hid (show stepP l[k] x (some (n, d)) = none by simp [stepP, scaleR, h5, hx0])
              have bx : (x == 0) = true := by simp [hx0]
              clear h5 hx0
              go_wp2_with fail
              go_quiet (fail)
              go_wp2_with fail
              refine ⟨⟨k + 1, by omega, by go_num, FIN.out 0 1 (by rw [SR0.out, SR.out]; rfl) _ (by repeat (first | with_reducible exact Gr.refl _ | with_reducible refine Gr.drewN _ ?_ | with_reducible refine Gr.xt _ _ ?_ | with_reducible refine Gr.alloc _ ?_)), ((G4.out.trans (by repeat (first | with_reducible exact Gr.refl _ | with_reducible refine Gr.drewN _ ?_ | with_reducible refine Gr.xt _ _ ?_ | with_reducible refine Gr.alloc _ ?_))).setc rb.out).setc rb.out⟩, by simp [intOf]; omega⟩
            · have SR := Lib.hid (show stepP l[k] x (some (n, d)) = some (n, d) by simp [stepP, scaleR, h5, hx0])
              have bx : (x == 0) = false := by simp [hx0]
              clear h5 hx0
              go_wp2_with fail
              go_quiet (fail)
              go_wp2_with fail
              refine ⟨⟨k + 1, by omega, by go_num, FIN.out n d (by rw [SR0.out, SR.out]; rfl) _ (by repeat (first | with_reducible exact Gr.refl _ | with_reducible refine Gr.drewN _ ?_ | with_reducible refine Gr.xt _ _ ?_ | with_reducible refine Gr.alloc _ ?_)), ((G4.out.trans (by repeat (first | with_reducible exact Gr.refl _ | with_reducible refine Gr.drewN _ ?_ | with_reducible refine Gr.xt _ _ ?_ | with_reducible refine Gr.alloc _ ?_))).setc rb.out).setc rb.out⟩, by simp [intOf]; omega⟩
          · have b5 : (l[k].kind == 5) = false := by simp [h5]
            by_cases h2 : l[k].kind = 2
            · have b2 : (l[k].kind == 2) = true := by simp [h2]
              have SR := Lib.hid (show stepP l[k] x (some (n, d)) = some (oN n d x, oD n d x) by simp [stepP, scaleR, h2])
              clear h5 h2
              go_wp2_with fail
              go_quiet (fail)
              go_wp2_with fail
              refine (over_any n d x _ (by omega) (by omega) (by omega) (by omega)).mono ?_
              rintro e w' ⟨rfl, O1, D1, rfl⟩
              go_wp2_with fail
              refine ⟨⟨k + 1, by omega, by go_num, (FIN.out (oN n d x) (oD n d x) (by rw [SR0.out, SR.out]; rfl) _ (Gr.refl _)).xt O1 D1, ((G4.out.setc rb.out).setc rb.out).xt O1 D1⟩, by simp [intOf]; omega⟩
            · have b2 : (l[k].kind == 2) = false := by simp [h2]
              by_cases h3 : l[k].kind = 3
              · have b3 : (l[k].kind == 3) = true := by simp [h3]
                have SR := Lib.hid (show stepP l[k] x (some (n, d)) = some (tN n d x, tD n d x) by simp [stepP, scaleR, h3])
                clear h5 h2 h3
                go_wp2_with fail
                go_quiet (fail)
                go_wp2_with fail
                refine (times_any n d x _ (by omega) (by omega) (by omega) (by omega)).mono ?_
                rintro e w' ⟨rfl, O1, D1, rfl⟩
                go_wp2_with fail
                refine ⟨⟨k + 1, by omega, by go_num, (FIN.out (tN n d x) (tD n d x) (by rw [SR0.out, SR.out]; rfl) _ (Gr.refl _)).xt O1 D1, ((G4.out.setc rb.out).setc rb.out).xt O1 D1⟩, by simp [intOf]; omega⟩
              · have b3 : (l[k].kind == 3) = false := by simp [h3]
                have SR := Lib.hid (show stepP l[k] x (some (n, d)) = some (n, d) by simp [stepP, scaleR, h2, h3, h5])
                clear h5 h2 h3
                go_wp2_with fail
                go_quiet (fail)
                go_wp2_with fail
                refine ⟨⟨k + 1, by omega, by go_num, FIN.out n d (by rw [SR0.out, SR.out]; rfl) _ (by repeat (first | with_reducible exact Gr.refl _ | with_reducible refine Gr.drewN _ ?_ | with_reducible refine Gr.xt _ _ ?_ | with_reducible refine Gr.alloc _ ?_)), ((G4.out.trans (by repeat (first | with_reducible exact Gr.refl _ | with_reducible refine Gr.drewN _ ?_ | with_reducible refine Gr.xt _ _ ?_ | with_reducible refine Gr.alloc _ ?_))).setc rb.out).setc rb.out⟩, by simp [intOf]; omega⟩
    · obtain rfl : k = l.length := by omega
      go_wp2_with fail
      go_ret
      refine ⟨RB, rfl, ?_, rb.out, HG.out⟩
      have := HR.out
      rwa [ratV_full l s HT.out.1] at this
end Go.Proofs.YtenehghpmnajpaaGreatDoor
/-! Contract of clock.Rates, where the clocks and the setting are right. -/
set_option linter.unusedVariables false
set_option linter.unusedSimpArgs false
namespace Go.Proofs.YtenehghpmnajpaaGreatDoor
open Go.RowKit
open Classical
def GivesRates2 (w : World) (l : List Clk) (s : List Int) (e : Ending) (w' : World) : Prop :=
  ∃ RB, e = .returned (.tuple #[.slice (some ⟨RB, 0, none⟩) l.length l.length, .int .i64 0]) ∧ Row w' RB 93 (encP ((rts l s).map prR)) ∧ w.heap.size ≤ RB ∧ Gr w w'
theorem pRates_any (l : List Clk) (s : List Int) (al aS : Option Addr) (cl cs : Nat) (w : World) (h : SlOf 5 RClk w al l) (hs : SlOf 1 RI w aS s) (hc : cchk l = 0) (hset : SetOk l s) (hoff : OffV w) :
    Calls Tryz.prog 109 #[.slice al l.length cl, .slice aS s.length cs] w (GivesRates2 w l s) := by
  obtain ⟨nb, _⟩ := cchk_zero hc
  have hl := small_len nb
  have hsl : s.length ≤ 16 := by have := hset.1; omega
  have PC := Lib.hid (pCheck_any l al cl w h (by unfold Fit; omega))
  have H := Lib.hid h
  have HS := Lib.hid hs
  have HC := Lib.hid hc
  have HT := Lib.hid hset
  have HO := Lib.hid hoff
  have HD := Lib.hid (decide_eq_true hset)
  rw [HC.out] at PC
  clear nb h hs hc hset hoff
  go_enter Tryz.func109, Tryz.ntmps109
  go_wp2_with fail
  refine PC.out.mono ?_
  rintro e w1 ⟨rfl, hg1⟩
  have G1 := Lib.hid hg1
  clear hg1
  go_wp2_with fail
  refine (pSet_any l s al aS cl cs w1 (clks_gr H.out G1.out) (HS.out.giI G1.out) (by unfold Fit; omega) (by unfold Fit; omega)).mono ?_
  rintro e w' ⟨rfl, rfl⟩
  rw [HD.out]
  go_wp2_with fail
  refine (rates_any l s al aS cl cs w1 (clks_gr H.out G1.out) (HS.out.giI G1.out) HC.out HT.out (HO.out.gr G1.out)).mono ?_
  rintro e w2 ⟨RB, rfl, hr, hb, hg⟩
  have HR := Lib.hid hr
  have G2 := Lib.hid (G1.out.trans hg)
  have hb' : w.heap.size ≤ RB := Nat.le_trans G1.out.size hb
  clear hr hg hb
  go_wp2_with fail
  go_ret2
  exact ⟨RB, rfl, HR.out, hb', G2.out⟩
end Go.Proofs.YtenehghpmnajpaaGreatDoor

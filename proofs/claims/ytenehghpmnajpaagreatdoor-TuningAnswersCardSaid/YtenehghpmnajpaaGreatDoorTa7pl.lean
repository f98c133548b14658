/- Lemmas and contracts for the proof of TuningAnswers (several texts in one, printed by wip/tools/pack.py): Kx. -/
import Derived.Test.YtenehghpmnajpaaGreatDoorTa7pk
/-! Plain: partial settings, what they decide, what they break; the refutation that the program builds. No program in sight. -/
set_option linter.unusedVariables false
set_option linter.unusedSimpArgs false
namespace Go.Proofs.YtenehghpmnajpaaGreatDoor
open Go.RowKit
open Classical
theorem getD_append_left {α : Type} (a b : List α) (i : Nat) (d : α) (h : i < a.length) : (a ++ b).getD i d = a.getD i d := by
  rw [List.getD_eq_getElem?_getD, List.getD_eq_getElem?_getD, List.getElem?_append_left h]
/-- The first rates are those of the first clocks. -/
theorem rts_prefix {l : List Clk} {s : List Int} (hs : s.length = l.length) : ∀ d k, k + d = l.length → ∀ i, i < k → rtAt (rts l s) i = rtAt (rts (l.take k) (s.take k)) i := by
  intro d
  induction d with
  | zero =>
    intro k hk i hi
    rw [List.take_of_length_le (by omega), List.take_of_length_le (by omega)]
  | succ d ih =>
    intro k hk i hi
    rw [ih (k + 1) (by omega) i (by omega), rts_take l s k (by omega) (by omega)]
    exact getD_append_left _ _ _ _ (by rw [rts_len _ _ (by simp; omega)]; simp; omega)
theorem rts_eq {l : List Clk} {s : List Int} (hs : s.length = l.length) {i : Nat} (hi : i < l.length) : rtAt (rts l s) i = stepR (rts (l.take i) (s.take i)) l[i] (s[i]'(by omega)) := by
  rw [rts_prefix hs (l.length - (i + 1)) (i + 1) (by omega) i (by omega), rts_take l s i hi (by omega)]
  unfold rtAt
  have e : (rts (l.take i) (s.take i)).length = i := by rw [rts_len _ _ (by simp; omega)]; simp; omega
  rw [List.getD_eq_getElem?_getD, List.getElem?_append_right (by omega), e, Nat.sub_self]; rfl
/-- A rate by that of the parent. -/
theorem rts_at {l : List Clk} {s : List Int} (hc : cchk l = 0) (hs : SetOk l s) {i : Nat} (hi : i < l.length) :
    rtAt (rts l s) i = if l[i].kind = 1 then some (chC l[i] (sOf s i), 1) else stepP l[i] (chC l[i] (sOf s i)) (rtAt (rts l s) (parC l[i] (sOf s i)).toNat) := by
  have hsi : i < s.length := by rw [hs.1]; exact hi
  rw [rts_eq hs.1 hi, sOf_at hsi]
  by_cases h1 : l[i].kind = 1
  · rw [if_pos h1]; simp [stepR, h1]
  · rw [if_neg h1, stepR_of h1]
    obtain ⟨_, ok, _, _⟩ := cchk_zero hc
    obtain ⟨_, hck⟩ := ok i hi
    obtain ⟨k0, k1⟩ := hs.2 i hi hsi
    obtain ⟨_, p0, p1⟩ := par_lt hck h1 k0 k1
    have : rtAt (rts l s) (parC l[i] s[i]).toNat = rtAt (rts (l.take i) (s.take i)) (parC l[i] s[i]).toNat := rts_prefix hs.1 (l.length - i) i (by omega) _ (by omega)
    rw [this]; rfl
/-- A setting some of whose choices are not made. -/
def PrtOk (l : List Clk) (p : List Int) : Prop := p.length = l.length ∧ ∀ i, i < l.length → sOf p i = -1 ∨ (0 ≤ sOf p i ∧ sOf p i < kOf l i)
def ExtS (p s : List Int) : Prop := ∀ i, sOf p i ≠ -1 → sOf s i = sOf p i
inductive Dec
  | opn (f : Nat)
  | isr (r : Rt)
/-- What a partial setting says of a clock: the clock on its way without a choice, or its rate. -/
def dec (l : List Clk) (p : List Int) (i : Nat) : Dec :=
  match l[i]? with
  | none => .opn i
  | some c =>
    if sOf p i = -1 then .opn i
    else if c.kind = 1 then .isr (some (chC c (sOf p i), 1))
    else if h : (parC c (sOf p i)).toNat < i then
      match dec l p (parC c (sOf p i)).toNat with
      | .opn f => .opn f
      | .isr r => .isr (stepP c (chC c (sOf p i)) r)
    else .opn i
termination_by i
def Dec.thn (d : Dec) (f : Rt → Rt) : Dec := match d with | .opn f => .opn f | .isr r => .isr (f r)
theorem dec_open {l : List Clk} {p : List Int} {i : Nat} (h : sOf p i = -1) : dec l p i = .opn i := by
  rw [dec]
  cases e : l[i]? with
  | none => rfl
  | some c => simp [h]
theorem dec_fix {l : List Clk} {p : List Int} {i : Nat} (hi : i < l.length) (h : sOf p i ≠ -1) (h1 : l[i].kind = 1) : dec l p i = .isr (some (chC l[i] (sOf p i), 1)) := by
  rw [dec, List.getElem?_eq_getElem hi]
  simp [h, h1]
theorem dec_par {l : List Clk} {p : List Int} {i : Nat} (hi : i < l.length) (h : sOf p i ≠ -1) (h1 : l[i].kind ≠ 1) (hp : (parC l[i] (sOf p i)).toNat < i) : dec l p i = (dec l p (parC l[i] (sOf p i)).toNat).thn (stepP l[i] (chC l[i] (sOf p i))) := by
  rw [dec, List.getElem?_eq_getElem hi]
  simp only [h, h1, if_false, dif_pos hp]
  cases dec l p (parC l[i] (sOf p i)).toNat <;> rfl
theorem PrtOk.cho {l : List Clk} {p : List Int} (hp : PrtOk l p) {i : Nat} (hi : i < l.length) (h : sOf p i ≠ -1) : 0 ≤ sOf p i ∧ sOf p i < l[i].choices.length := by
  rcases hp.2 i hi with e | e
  · exact absurd e h
  · rw [kOf_at hi] at e; exact e
theorem dec_par' {l : List Clk} {p : List Int} (hc : cchk l = 0) (hp : PrtOk l p) {i : Nat} (hi : i < l.length) (h : sOf p i ≠ -1) (h1 : l[i].kind ≠ 1) :
    0 ≤ parC l[i] (sOf p i) ∧ parC l[i] (sOf p i) < i ∧ dec l p i = (dec l p (parC l[i] (sOf p i)).toNat).thn (stepP l[i] (chC l[i] (sOf p i))) := by
  obtain ⟨_, ok, _, _⟩ := cchk_zero hc
  obtain ⟨_, hck⟩ := ok i hi
  obtain ⟨k0, k1⟩ := hp.cho hi h
  obtain ⟨_, p0, p1⟩ := par_lt hck h1 k0 k1
  exact ⟨p0, p1, dec_par hi h h1 (by omega)⟩
/-- What is decided holds of each full setting. -/
theorem dec_ext {l : List Clk} {p s : List Int} (hc : cchk l = 0) (hp : PrtOk l p) (hs : SetOk l s) (he : ExtS p s) : ∀ i, i < l.length → ∀ r, dec l p i = .isr r → rtAt (rts l s) i = r := by
  intro i
  induction i using Nat.strongRecOn with
  | ind i ih =>
    intro hi r hr
    by_cases h : sOf p i = -1
    · rw [dec_open h] at hr; cases hr
    · rw [rts_at hc hs hi, he i h]
      by_cases h1 : l[i].kind = 1
      · rw [dec_fix hi h h1] at hr
        rw [if_pos h1]; injection hr
      · obtain ⟨p0, p1, e⟩ := dec_par' hc hp hi h h1
        rw [e] at hr
        rw [if_neg h1]
        cases hd : dec l p (parC l[i] (sOf p i)).toNat with
        | opn f => rw [hd] at hr; cases hr
        | isr r' =>
          rw [hd] at hr
          injection hr with hr
          rw [ih _ (by omega) (by omega) r' hd]; exact hr
theorem dec_opn {l : List Clk} {p : List Int} (hc : cchk l = 0) (hp : PrtOk l p) : ∀ i, i < l.length → ∀ f, dec l p i = .opn f → f ≤ i ∧ sOf p f = -1 := by
  intro i
  induction i using Nat.strongRecOn with
  | ind i ih =>
    intro hi f hf
    by_cases h : sOf p i = -1
    · rw [dec_open h] at hf; injection hf with hf; subst hf; exact ⟨Nat.le_refl _, h⟩
    · by_cases h1 : l[i].kind = 1
      · rw [dec_fix hi h h1] at hf; cases hf
      · obtain ⟨p0, p1, e⟩ := dec_par' hc hp hi h h1
        rw [e] at hf
        cases hd : dec l p (parC l[i] (sOf p i)).toNat with
        | opn f' =>
          rw [hd] at hf
          injection hf with hf
          subst hf
          have := ih _ (by omega) (by omega) f' hd
          exact ⟨by omega, this.2⟩
        | isr r' => rw [hd] at hf; cases hf
/-- The choices that are not made are the first ones. -/
def fillS (p : List Int) : List Int := p.map fun x => if x = -1 then 0 else x
theorem fillS_at (p : List Int) (i : Nat) : sOf (fillS p) i = if sOf p i = -1 then 0 else sOf p i := by
  unfold fillS sOf
  rw [List.getD_eq_getElem?_getD, List.getD_eq_getElem?_getD, List.getElem?_map]
  cases p[i]? with
  | none => simp
  | some x => simp
theorem fillS_ok {l : List Clk} {p : List Int} (hc : cchk l = 0) (hp : PrtOk l p) : SetOk l (fillS p) ∧ ExtS p (fillS p) := by
  obtain ⟨_, ok, _, _⟩ := cchk_zero hc
  refine ⟨setOk_of (by simp [fillS, hp.1]) fun i hi => ?_, fun i hi => by rw [fillS_at, if_neg hi]⟩
  rw [fillS_at]
  have h1 := allOk_cho ok _ (List.getElem_mem hi)
  split
  · rw [kOf_at hi]; omega
  · rename_i h
    exact (hp.2 i hi).resolve_left h
theorem dec_good {l : List Clk} {p : List Int} (hc : cchk l = 0) (hp : PrtOk l p) {i : Nat} (hi : i < l.length) {r : Rt} (h : dec l p i = .isr r) : RtOk ((facs l).getD i 0).toNat r ∧ GoodR r := by
  obtain ⟨h1, h2⟩ := fillS_ok hc hp
  have e := dec_ext hc hp h1 h2 i hi r h
  obtain ⟨_, ok, _, fs⟩ := cchk_zero hc
  have hl := rts_len l (fillS p) h1.1.symm
  have ht := rts_ok_take ok fs h1 l.length (Nat.le_refl _)
  rw [List.take_length, List.take_of_length_le (by rw [h1.1]; exact Nat.le_refl _)] at ht
  have := ht i (by omega)
  rw [← rtAt_eq (by omega), e] at this
  exact ⟨this, fun n d e => by have := this n d e; exact ⟨this.1, this.2.1⟩⟩
/-! What a partial setting breaks -/
def judgeGo (l : List Clk) (p : List Int) : List Bnd → Int → Int × Int
  | [], nx => (-1, nx)
  | b :: bs, nx =>
    match dec l p b.clock.toNat with
    | .isr r => if brokB b r = true then (b.index, 0) else judgeGo l p bs nx
    | .opn f => judgeGo l p bs (if nx < 0 then (f : Int) else nx)
theorem judgeGo_is {l : List Clk} {p : List Int} : ∀ (bs : List Bnd) (nx : Int), (∃ b ∈ bs, (∃ r, dec l p b.clock.toNat = .isr r ∧ brokB b r = true) ∧ judgeGo l p bs nx = (b.index, 0)) ∨
    ((∀ b ∈ bs, ∀ r, dec l p b.clock.toNat = .isr r → brokB b r = false) ∧ (judgeGo l p bs nx).1 = -1 ∧
      (((judgeGo l p bs nx).2 = nx ∧ (0 ≤ nx ∨ ∀ b ∈ bs, ∃ r, dec l p b.clock.toNat = .isr r)) ∨ (nx < 0 ∧ ∃ b ∈ bs, ∃ f : Nat, dec l p b.clock.toNat = .opn f ∧ (judgeGo l p bs nx).2 = f))) := by
  intro bs
  induction bs with
  | nil => intro nx; exact .inr ⟨fun b h => (by cases h), rfl, .inl ⟨rfl, .inr fun b h => (by cases h)⟩⟩
  | cons b bs ih =>
    intro nx
    cases hd : dec l p b.clock.toNat with
    | isr r =>
      simp only [judgeGo, hd]
      cases hb : brokB b r with
      | true => exact .inl ⟨b, by simp, ⟨r, hd, hb⟩, by simp⟩
      | false =>
        simp only [Bool.false_eq_true, if_false]
        rcases ih nx with ⟨b', h1, h2, h3⟩ | ⟨h1, h2, h3⟩
        · exact .inl ⟨b', by simp [h1], h2, h3⟩
        · refine .inr ⟨fun b' hb' r' hr' => ?_, h2, ?_⟩
          · rcases List.mem_cons.1 hb' with e | e
            · subst e; rw [hd] at hr'; injection hr' with hr'; rw [← hr']; exact hb
            · exact h1 b' e r' hr'
          · rcases h3 with ⟨h3, h4⟩ | ⟨h3, b', h4, f, h5, h6⟩
            · refine .inl ⟨h3, h4.imp id fun h4 b' hb' => ?_⟩
              rcases List.mem_cons.1 hb' with e | e
              · subst e; exact ⟨r, hd⟩
              · exact h4 b' e
            · exact .inr ⟨h3, b', by simp [h4], f, h5, h6⟩
    | opn f =>
      simp only [judgeGo, hd]
      rcases ih (if nx < 0 then (f : Int) else nx) with ⟨b', h1, h2, h3⟩ | ⟨h1, h2, h3⟩
      · exact .inl ⟨b', by simp [h1], h2, h3⟩
      · refine .inr ⟨fun b' hb' r' hr' => ?_, h2, ?_⟩
        · rcases List.mem_cons.1 hb' with e | e
          · subst e; rw [hd] at hr'; cases hr'
          · exact h1 b' e r' hr'
        · by_cases hn : nx < 0
          · rw [if_pos hn] at h3 ⊢
            rcases h3 with ⟨h3, _⟩ | ⟨h3, _⟩
            · exact .inr ⟨hn, b, by simp, f, hd, h3⟩
            · omega
          · rw [if_neg hn] at h3 ⊢
            rcases h3 with ⟨h3, _⟩ | ⟨h3, _⟩
            · exact .inl ⟨h3, .inl (by omega)⟩
            · exact absurd h3 hn
noncomputable def judge (l : List Clk) (ms : List Lmt) (p : List Int) : Int × Int := judgeGo l p (allB l ms) (-1)
/-- No full setting meets the limits. -/
def NoExt (l : List Clk) (ms : List Lmt) (p : List Int) : Prop := ∀ s, SetOk l s → ExtS p s → meetS l ms s = false
theorem allB_index {l : List Clk} {ms : List Lmt} {b : Bnd} (h : b ∈ allB l ms) : 0 ≤ b.index := by
  rcases List.mem_append.1 h with h | h
  · obtain ⟨j, _, rfl⟩ := mem_limsB.1 h
    simp only [limB]; omega
  · obtain ⟨j, _, _, rfl⟩ := mem_ownB.1 h
    simp only; omega
/-- A leaf, or a clock whose choice is open. -/
theorem judge_is {l : List Clk} {ms : List Lmt} {p : List Int} (hc : cchk l = 0) (hm : LsOk l ms) (hp : PrtOk l p) (hn : NoExt l ms p) :
    (∃ b ∈ allB l ms, (∃ r, dec l p b.clock.toNat = .isr r ∧ brokB b r = true) ∧ judge l ms p = (b.index, 0) ∧ 0 ≤ b.index) ∨
    (∃ f : Nat, judge l ms p = (-1, (f : Int)) ∧ f < l.length ∧ sOf p f = -1) := by
  rcases judgeGo_is (l := l) (p := p) (allB l ms) (-1) with ⟨b, h1, h2, h3⟩ | ⟨h1, h2, h3⟩
  · exact .inl ⟨b, h1, h2, h3, allB_index h1⟩
  · rcases h3 with ⟨_, h4⟩ | ⟨_, b, hb, f, h5, h6⟩
    · exfalso
      rcases h4 with h4 | h4
      · omega
      · obtain ⟨f1, f2⟩ := fillS_ok hc hp
        have := hn _ f1 f2
        unfold meetS at this
        rw [decide_eq_false_iff_not] at this
        apply this
        intro b hb
        obtain ⟨r, hr⟩ := h4 b hb
        have hbo := allB_ok hm b hb
        rw [dec_ext hc hp f1 f2 b.clock.toNat (by have := hbo.1; have := hbo.2; omega) r hr]
        exact h1 b hb r hr
    · have hbo := allB_ok hm b hb
      obtain ⟨q1, q2⟩ := dec_opn hc hp b.clock.toNat (by have := hbo.1; have := hbo.2; omega) f h5
      exact .inr ⟨f, Prod.ext h2 h6, by have := hbo.1; have := hbo.2; omega, q2⟩
/-! The refutation that the program builds -/
structure Brn where
  limit : Int
  clock : Int
  next : List Int
/-- The branches of the first k choices. -/
def kidsGo (f : List Int → Nat → List Brn) (p : List Int) (nx a : Nat) : Nat → List Brn × List Int
  | 0 => ([], [])
  | k + 1 => ((kidsGo f p nx a k).1 ++ f (p.set nx k) (a + (kidsGo f p nx a k).1.length), (kidsGo f p nx a k).2 ++ [((a + (kidsGo f p nx a k).1.length : Nat) : Int)])
/-- The branches of a partial setting, the first of them at a. -/
noncomputable def refB (l : List Clk) (ms : List Lmt) : Nat → List Int → Nat → List Brn
  | 0, _, _ => []
  | g + 1, p, a => if 0 ≤ (judge l ms p).1 then [⟨(judge l ms p).1, 0, []⟩] else
      ⟨-1, (judge l ms p).2, (kidsGo (refB l ms g) p (judge l ms p).2.toNat (a + 1) (kOf l (judge l ms p).2.toNat).toNat).2⟩ :: (kidsGo (refB l ms g) p (judge l ms p).2.toNat (a + 1) (kOf l (judge l ms p).2.toNat).toNat).1
def opens (p : List Int) : Nat := p.countP fun x => x == -1
theorem kidsGo_len (f : List Int → Nat → List Brn) (p : List Int) (nx a k : Nat) : (kidsGo f p nx a k).2.length = k := by
  induction k with
  | zero => rfl
  | succ k ih => simp [kidsGo, ih]
theorem PrtOk.set {l : List Clk} {p : List Int} (h : PrtOk l p) {i : Nat} {x : Int} (hi : i < l.length) (h0 : 0 ≤ x) (h1 : x < kOf l i) : PrtOk l (p.set i x) :=
  ⟨by rw [List.length_set]; exact h.1, fun j hj => by
    rw [sOf_set (by rw [h.1]; exact hi)]
    split
    · rename_i e; subst e; exact .inr ⟨h0, h1⟩
    · exact h.2 j hj⟩
theorem NoExt.set {l : List Clk} {ms : List Lmt} {p : List Int} (h : NoExt l ms p) {i : Nat} {x : Int} (hi : i < p.length) (ho : sOf p i = -1) : NoExt l ms (p.set i x) := fun s hs he =>
  h s hs fun j hj => by
    have := he j
    rw [sOf_set hi] at this
    split at this
    · rename_i e; subst e; exact absurd ho hj
    · exact this hj
theorem opens_set {p : List Int} {i : Nat} {x : Int} (hi : i < p.length) (ho : sOf p i = -1) (hx : x ≠ -1) : opens (p.set i x) + 1 = opens p := by
  unfold opens
  induction p generalizing i with
  | nil => simp at hi
  | cons y p ih =>
    cases i with
    | zero =>
      have : y = -1 := by simpa [sOf] using ho
      subst this
      simp [List.countP_cons, hx]
    | succ i =>
      have := ih (i := i) (by simpa using hi) (by simpa [sOf] using ho)
      simp only [List.set_cons_succ, List.countP_cons]
      omega
/-- How many full settings there are at most. -/
def extU (K S : Nat → Int) : Nat → Nat
  | 0 => 1
  | j + 1 => extU K S j * (if S j = -1 then (K j).toNat else 1)
def extN (l : List Clk) (p : List Int) : Nat := extU (kOf l) (sOf p) l.length
theorem extU_set (K S S' : Nat → Int) (i : Nat) (hS : ∀ j, j ≠ i → S' j = S j) (h1 : S i = -1) (h2 : S' i ≠ -1) : ∀ n, (n ≤ i → extU K S' n = extU K S n) ∧ (i < n → extU K S' n * (K i).toNat = extU K S n) := by
  intro n
  induction n with
  | zero => exact ⟨fun _ => rfl, fun h => by omega⟩
  | succ n ih =>
    refine ⟨fun h => ?_, fun h => ?_⟩
    · simp only [extU]; rw [ih.1 (by omega), hS n (by omega)]
    · simp only [extU]
      by_cases e : n = i
      · subst e; rw [ih.1 (Nat.le_refl _), h1]; simp [h2]
      · rw [hS n e, ← ih.2 (by omega), Nat.mul_assoc, Nat.mul_assoc, Nat.mul_comm (K i).toNat]
theorem extN_set {l : List Clk} {p : List Int} (hp : p.length = l.length) {i : Nat} {x : Int} (hi : i < l.length) (ho : sOf p i = -1) (hx : x ≠ -1) : extN l (p.set i x) * (kOf l i).toNat = extN l p := by
  refine (extU_set (kOf l) (sOf p) (sOf (p.set i x)) i (fun j hj => ?_) ho ?_ l.length).2 hi
  · rw [sOf_set (by rw [hp]; exact hi), if_neg hj]
  · rw [sOf_set (by rw [hp]; exact hi), if_pos rfl]; exact hx
theorem extN_le {l : List Clk} {p : List Int} (h : ∀ c ∈ l, 1 ≤ c.choices.length) : ∀ n, n ≤ l.length → extU (kOf l) (sOf p) n ≤ prodC (l.take n) := by
  intro n
  induction n with
  | zero => intro _; simp [extU, prodC]
  | succ n ih =>
    intro hn
    have h1 := ih (by omega)
    have h2 := h _ (List.getElem_mem (l := l) (n := n) (by omega))
    have hk := kOf_at (l := l) (i := n) (by omega)
    rw [prodC_take l n (by omega)]
    simp only [extU]
    refine Nat.mul_le_mul h1 ?_
    split
    · rw [hk]; simp
    · exact h2
theorem kidsGo_bound {f : List Int → Nat → List Brn} {p : List Int} {nx a B : Nat} : ∀ k : Nat, (∀ j : Nat, j < k → ∀ a, (f (p.set nx (j : Int)) a).length ≤ B) → (kidsGo f p nx a k).1.length ≤ k * B := by
  intro k
  induction k with
  | zero => intro _; simp [kidsGo]
  | succ k ih =>
    intro h
    have h1 := ih fun j hj => h j (by omega)
    have h2 := h k (by omega) (a + (kidsGo f p nx a k).1.length)
    simp only [kidsGo, List.length_append]
    rw [Nat.succ_mul]; omega
theorem refB_len {l : List Clk} {ms : List Lmt} (hc : cchk l = 0) (hm : LsOk l ms) : ∀ g p a, PrtOk l p → NoExt l ms p → (refB l ms g p a).length ≤ (opens p + 1) * extN l p := by
  obtain ⟨_, ok, _, _⟩ := cchk_zero hc
  have hpos : ∀ p, 1 ≤ extN l p → True := fun _ _ => trivial
  have pos : ∀ p, PrtOk l p → 1 ≤ extN l p := fun p hp => by
    have : ∀ n, n ≤ l.length → 1 ≤ extU (kOf l) (sOf p) n := by
      intro n
      induction n with
      | zero => intro _; exact Nat.le_refl _
      | succ n ih =>
        intro hn
        simp only [extU]
        have h2 := allOk_cho ok _ (List.getElem_mem (l := l) (n := n) (by omega))
        have hk := kOf_at (l := l) (i := n) (by omega)
        refine Nat.mul_pos (ih (by omega)) ?_
        split
        · omega
        · exact Nat.one_pos
    exact this l.length (Nat.le_refl _)
  intro g
  induction g with
  | zero => intro p a _ _; simp [refB]
  | succ g ih =>
    intro p a hp hn
    have hpos := pos p hp
    rw [refB]
    split
    · have : 1 * 1 ≤ (opens p + 1) * extN l p := Nat.mul_le_mul (by omega) hpos
      simpa using this
    · rename_i hj
      rcases judge_is hc hm hp hn with ⟨b, _, _, e, h0⟩ | ⟨f, e, hf, ho⟩
      · rw [e] at hj; exact absurd h0 hj
      · rw [e, List.length_cons]
        simp only [Int.toNat_natCast]
        have hfl : f < p.length := by rw [hp.1]; exact hf
        obtain ⟨K, hK⟩ : ∃ K : Nat, kOf l f = K := ⟨l[f].choices.length, kOf_at hf⟩
        have hkk : (kOf l f).toNat = K := by omega
        rw [hkk]
        have hE : ∀ x : Int, 0 ≤ x → extN l (p.set f x) * K = extN l p := fun x hx => by rw [← hkk]; exact extN_set hp.1 hf ho (by omega)
        have hO : ∀ x : Int, 0 ≤ x → opens (p.set f x) + 1 = opens p := fun x hx => opens_set hfl ho (by omega)
        have hE0 := hE 0 (by omega)
        have hb := kidsGo_bound (f := refB l ms g) (p := p) (nx := f) (a := a + 1) (B := opens p * extN l (p.set f 0)) K fun j hj a' => by
          have h1 := ih (p.set f j) a' (hp.set hf (by omega) (by omega)) (hn.set hfl ho)
          have h2 := hO j (by omega)
          have h3 := hE j (by omega)
          have h4 : extN l (p.set f j) = extN l (p.set f 0) := by
            have : extN l (p.set f j) * K = extN l (p.set f 0) * K := by rw [h3, hE0]
            exact Nat.eq_of_mul_eq_mul_right (by omega) this
          rw [h2, h4] at h1
          exact h1
        have h5 : K * (opens p * extN l (p.set f 0)) = opens p * extN l p := by
          rw [← hE0, Nat.mul_comm K, Nat.mul_assoc]
        rw [h5] at hb
        rw [Nat.succ_mul]
        omega
theorem refB_small {l : List Clk} {ms : List Lmt} (hc : cchk l = 0) (hm : LsOk l ms) {g : Nat} {p : List Int} {a : Nat} (hp : PrtOk l p) (hn : NoExt l ms p) : (refB l ms g p a).length ≤ 69632 := by
  obtain ⟨nb, ok, pr, _⟩ := cchk_zero hc
  have h1 := refB_len hc hm g p a hp hn
  have h2 := extN_le (p := p) (allOk_cho ok) l.length (Nat.le_refl _)
  rw [List.take_length] at h2
  have h3 : opens p ≤ p.length := List.countP_le_length
  have h4 := small_len nb
  have h5 : (opens p + 1) * extN l p ≤ 17 * 4096 := Nat.mul_le_mul (by rw [hp.1] at h3; omega) (Nat.le_trans h2 pr)
  omega
/-- The partial setting without choices. -/
def startS (l : List Clk) : List Int := l.map fun c => if 1 < c.choices.length then -1 else 0
theorem startS_at {l : List Clk} {i : Nat} (hi : i < l.length) : sOf (startS l) i = if 1 < l[i].choices.length then -1 else 0 := by
  rw [sOf_at (by simp [startS]; exact hi)]; simp [startS]
theorem startS_ok {l : List Clk} (hc : cchk l = 0) : PrtOk l (startS l) := by
  obtain ⟨_, ok, _, _⟩ := cchk_zero hc
  refine ⟨by simp [startS], fun i hi => ?_⟩
  rw [startS_at hi]
  have := allOk_cho ok _ (List.getElem_mem hi)
  split
  · exact .inl rfl
  · rw [kOf_at hi]; exact .inr ⟨by omega, by omega⟩
end Go.Proofs.YtenehghpmnajpaaGreatDoor
/-! Branches in memory: a refuter that collects them; lists of branches that are read. -/
set_option linter.unusedVariables false
set_option linter.unusedSimpArgs false
namespace Go.Proofs.YtenehghpmnajpaaGreatDoor
open Go.RowKit
open Classical
/-- The cells of branches; the third of each names its list. -/
def encN (b : Brn × Option Addr × Nat) : List Value := [.int .i64 b.1.limit, .int .i64 b.1.clock, .slice b.2.1 b.1.next.length b.2.2]
theorem encN_set (xs : List (Brn × Option Addr × Nat)) (i : Nat) (hi : i < xs.length) (nx : List Int) (a : Option Addr) (c : Nat) :
    (xs.flatMap encN).set (i * 3 + 2) (.slice a nx.length c) = (xs.set i (⟨xs[i].1.limit, xs[i].1.clock, nx⟩, a, c)).flatMap encN := by
  induction xs generalizing i with
  | nil => simp at hi
  | cons x xs ih =>
    cases i with
    | zero => simp [encN]
    | succ i =>
      have := ih i (by simpa using hi)
      have e : (i + 1) * 3 + 2 = (i * 3 + 2) + 3 := by omega
      rw [e]
      simp only [List.flatMap_cons, List.set_cons_succ, List.getElem_cons_succ]
      rw [← this]
      simp [encN]
/-- The lists of branches lie in rows of the call's own. -/
def NextAt (base : Nat) (w : World) (xs : List (Brn × Option Addr × Nat)) : Prop := ∀ b ∈ xs, Own1 base w 3 (nums b.1.next) b.2.1 ∧ b.1.next.length ≤ b.2.2
/-- A refuter with the branches L, in block RB. -/
structure RefAt (base : Nat) (w : World) (RB : Nat) (v1 v2 : Value) (A : Option Addr) (cap : Nat) (xs : List (Brn × Option Addr × Nat)) : Prop where
  row : Row w RB 110 [v1, v2, .slice A xs.length cap]
  own : w.ownsRow base 81 3 (.slice A xs.length cap) xs.length (xs.flatMap encN)
  nxt : NextAt base w xs
  low : base ≤ RB
/-- Rows of numbers stay. -/
def KeepI (w w' : World) : Prop := w.heap.size ≤ w'.heap.size ∧ ∀ B vs, Row w B 3 vs → Row w' B 3 vs
theorem KeepI.refl (w : World) : KeepI w w := ⟨Nat.le_refl _, fun _ _ h => h⟩
theorem KeepI.trans {w w1 w2 : World} (h : KeepI w w1) (k : KeepI w1 w2) : KeepI w w2 := ⟨Nat.le_trans h.1 k.1, fun B vs r => k.2 B vs (h.2 B vs r)⟩
theorem KeepI.gr {w w1 w2 : World} (h : KeepI w w1) (k : Gr w1 w2) : KeepI w w2 := ⟨Nat.le_trans h.1 k.size, fun B vs r => (h.2 B vs r).gr k⟩
theorem KeepI.of_gr {w w1 : World} (k : Gr w w1) : KeepI w w1 := (KeepI.refl w).gr k
theorem KeepI.rowS {w w1 : World} (h : KeepI w w1) {B : Nat} {vs : List Value} (r : RowS w B 3 vs) : RowS w1 B 3 vs := r.elim fun x r => ⟨x, h.2 _ _ r⟩
/-- A row of something else grew. -/
theorem KeepI.other {w w1 w2 : World} (h : KeepI w w1) {row : Option Nat} (k : w1.grownBy w2 row) (hne : ∀ B vs, RowS w1 B 3 vs → some B ≠ row) : KeepI w w2 :=
  ⟨Nat.le_trans h.1 k.size, fun B vs r => (h.2 B vs r).grown k (hne B vs (h.2 B vs r).s)⟩
theorem KeepI.setc {w w1 : World} (h : KeepI w w1) {B T o : Nat} {us : List Value} {v : Value} (hr : RowS w1 B T us) (hT : T ≠ 3) : KeepI w (w1.setCell ⟨B, o, none⟩ v) :=
  ⟨by rw [size_set]; exact h.1, fun C vs r => (h.2 C vs r).oth (RowS.apart hr (h.2 C vs r).s hT)⟩
/-- A row of numbers that is new grew. -/
theorem KeepI.mine {w w1 w2 : World} (h : KeepI w w1) {row : Option Nat} (k : w1.grownBy w2 row) (hne : ∀ B, row = some B → w.heap.size ≤ B) : KeepI w w2 :=
  ⟨Nat.le_trans h.1 k.size, fun B vs r => (h.2 B vs r).grown k (fun e => by have := hne B e.symm; have := r.has; unfold Has at this; omega)⟩
theorem KeepI.own1 {w w1 : World} (h : KeepI w w1) {base : Nat} {vs : List Value} {a : Option Addr} (r : Own1 base w 3 vs a) : Own1 base w1 3 vs a := by
  rcases r with r | ⟨B, e, h1, r⟩
  · exact .inl r
  · exact .inr ⟨B, e, h1, h.rowS r⟩
theorem KeepI.owns {w w1 : World} (h : KeepI w w1) {base n : Nat} {v : Value} {xs : List Value} (r : w.ownsRow base 3 1 v n xs) : w1.ownsRow base 3 1 v n xs := by
  obtain ⟨h1, ⟨h2, h3⟩ | ⟨g, cap, cur, e, hb, hg, rest⟩⟩ := r
  · exact ⟨h1, .inl ⟨h2, h3⟩⟩
  · exact ⟨h1, .inr ⟨g, cap, cur, e, hb, h.2 g cur.toList hg, rest⟩⟩
theorem NextAt.keep {base : Nat} {w w1 : World} {xs : List (Brn × Option Addr × Nat)} (h : NextAt base w xs) (k : KeepI w w1) : NextAt base w1 xs := fun b hb => ⟨k.own1 (h b hb).1, (h b hb).2⟩
/-- A list is in none of the rows of a block. -/
def NotIn (v : Value) (xs : List (Brn × Option Addr × Nat)) : Prop := ∀ b ∈ xs, ∀ B, b.1.next ≠ [] → b.2.1 = some ⟨B, 0, none⟩ → some B ≠ v.ownBlock
theorem NextAt.grown {base : Nat} {w w1 : World} {v : Value} {xs : List (Brn × Option Addr × Nat)} (h : NextAt base w xs) (k : w.grownBy w1 v.ownBlock) (hn : NotIn v xs) : NextAt base w1 xs := fun b hb => by
  obtain ⟨h1, h2⟩ := h b hb
  refine ⟨?_, h2⟩
  rcases h1 with h1 | ⟨B, e, hB, r⟩
  · exact .inl h1
  · by_cases q : b.1.next = []
    · exact .inl (by rw [q]; rfl)
    · exact .inr ⟨B, e, hB, r.grown k (hn b hb B q e)⟩
theorem NextAt.below {base : Nat} {w : World} {xs : List (Brn × Option Addr × Nat)} (h : NextAt base w xs) : ∀ b ∈ xs, ∀ B, b.1.next ≠ [] → b.2.1 = some ⟨B, 0, none⟩ → base ≤ B ∧ B < w.heap.size := fun b hb B q e => by
  rcases (h b hb).1 with h1 | ⟨B', e', hB, r⟩
  · exact absurd (by simpa [nums] using h1) q
  · rw [e'] at e
    cases e
    exact ⟨hB, r.has⟩
theorem RefAt.gr {base : Nat} {w w1 : World} {RB : Nat} {v1 v2 : Value} {A : Option Addr} {cap : Nat} {xs : List (Brn × Option Addr × Nat)} (h : RefAt base w RB v1 v2 A cap xs) (k : Gr w w1) : RefAt base w1 RB v1 v2 A cap xs :=
  ⟨h.row.gr k, Gr.owns h.own k, h.nxt.keep (.of_gr k), h.low⟩
/-- A row of numbers grew that is none of the lists of the branches. -/
theorem RefAt.nums {base : Nat} {w w1 : World} {RB : Nat} {v1 v2 : Value} {A : Option Addr} {cap : Nat} {xs : List (Brn × Option Addr × Nat)} (h : RefAt base w RB v1 v2 A cap xs) {b n : Nat} {v : Value} {us : List Value} (ho : w.ownsRow b 3 1 v n us) (hg : w.grownBy w1 v.ownBlock) (hn : NotIn v xs) : RefAt base w1 RB v1 v2 A cap xs :=
  ⟨h.row.grown hg (owns_apart ho h.row.s (by decide)), World.ownsRow.kept h.own hg (owns_two ho h.own (by decide)), h.nxt.grown hg hn, h.low⟩
end Go.Proofs.YtenehghpmnajpaaGreatDoor
/-! Plain: what the reference's check of branches computes. No program in sight. -/
set_option linter.unusedVariables false
set_option linter.unusedSimpArgs false
namespace Go.Proofs.YtenehghpmnajpaaGreatDoor
open Go.RowKit
open Classical
/-- A leaf: a limit that a partial setting breaks. -/
noncomputable def leafS (l : List Clk) (ms : List Lmt) (p : List Int) (limit : Int) : Bool := decide (∃ b ∈ allB l ms, b.index = limit ∧ ∃ r, dec l p b.clock.toNat = .isr r ∧ brokB b r = true)
def leafD (d : Dec) (x : Lmt) : Bool := match d with | .opn _ => false | .isr r => !okIn r x.low x.high
def leafO (d : Dec) (c : Clk) : Bool := match d with | .isr (some (n, dd)) => c.high != 0 && !withinB n dd c.low c.high | _ => false
theorem leafS_lim {l : List Clk} {ms : List Lmt} {p : List Int} {j : Nat} (hj : j < ms.length) : leafS l ms p (j : Int) = leafD (dec l p ms[j].clock.toNat) ms[j] := by
  have key : (∃ b ∈ allB l ms, b.index = (j : Int) ∧ ∃ r, dec l p b.clock.toNat = .isr r ∧ brokB b r = true) ↔ ∃ r, dec l p ms[j].clock.toNat = .isr r ∧ okIn r ms[j].low ms[j].high = false := by
    constructor
    · rintro ⟨b, hb, hi, r, h1, h2⟩
      rcases List.mem_append.1 hb with hb | hb
      · obtain ⟨i, hi', rfl⟩ := mem_limsB.1 hb
        have : i = j := by simp only [limB] at hi; omega
        subst this
        refine ⟨r, h1, ?_⟩
        cases r <;> simp_all [brokB, limB, okIn]
      · obtain ⟨i, hi', _, rfl⟩ := mem_ownB.1 hb
        simp only at hi; omega
    · rintro ⟨r, h1, h2⟩
      refine ⟨limB j ms[j], List.mem_append_left _ (mem_limsB.2 ⟨j, hj, rfl⟩), rfl, r, h1, ?_⟩
      cases r <;> simp_all [brokB, limB, okIn]
  unfold leafS
  cases hd : dec l p ms[j].clock.toNat with
  | opn f =>
    simp only [leafD]
    rw [decide_eq_false_iff_not, key, hd]
    rintro ⟨r, h, _⟩; cases h
  | isr r =>
    simp only [leafD]
    rw [hd] at key
    cases ho : okIn r ms[j].low ms[j].high with
    | true =>
      simp only [Bool.not_true]
      rw [decide_eq_false_iff_not, key]
      rintro ⟨r', h, h'⟩; injection h with h; rw [← h, ho] at h'; cases h'
    | false =>
      simp only [Bool.not_false]
      rw [decide_eq_true_iff, key]
      exact ⟨r, rfl, ho⟩
theorem leafS_own {l : List Clk} {ms : List Lmt} {p : List Int} {k : Nat} (hk : k < l.length) : leafS l ms p ((ms.length : Int) + (k : Int)) = leafO (dec l p k) l[k] := by
  have key : (∃ b ∈ allB l ms, b.index = (ms.length : Int) + (k : Int) ∧ ∃ r, dec l p b.clock.toNat = .isr r ∧ brokB b r = true) ↔ ∃ n d, dec l p k = .isr (some (n, d)) ∧ l[k].high ≠ 0 ∧ withinB n d l[k].low l[k].high = false := by
    constructor
    · rintro ⟨b, hb, hi, r, h1, h2⟩
      rcases List.mem_append.1 hb with hb | hb
      · obtain ⟨i, hi', rfl⟩ := mem_limsB.1 hb
        simp only [limB] at hi; omega
      · obtain ⟨i, hi', hh, rfl⟩ := mem_ownB.1 hb
        have : i = k := by simp only at hi; omega
        subst this
        simp only [Int.toNat_natCast] at h1
        cases r with
        | none => simp [brokB] at h2
        | some nd =>
          obtain ⟨n, d⟩ := nd
          exact ⟨n, d, h1, hh, by simpa [brokB] using h2⟩
    · rintro ⟨n, d, h1, h2, h3⟩
      exact ⟨_, List.mem_append_right _ (mem_ownB.2 ⟨k, hk, h2, rfl⟩), by simp only; omega, some (n, d), by simpa using h1, by simpa [brokB] using h3⟩
  unfold leafS
  by_cases h : ∃ n d, dec l p k = .isr (some (n, d)) ∧ l[k].high ≠ 0 ∧ withinB n d l[k].low l[k].high = false
  · rw [decide_eq_true (key.2 h)]
    obtain ⟨n, d, h1, h2, h3⟩ := h
    simp [leafO, h1, h2, h3]
  · rw [decide_eq_false (fun q => h (key.1 q))]
    symm
    cases hd : dec l p k with
    | opn f => rfl
    | isr r =>
      cases r with
      | none => rfl
      | some nd =>
        obtain ⟨n, d⟩ := nd
        simp only [leafO]
        by_cases h2 : l[k].high = 0
        · simp [h2]
        · cases h3 : withinB n d l[k].low l[k].high with
          | true => simp
          | false => exact absurd ⟨n, d, hd, h2, h3⟩ h
theorem leafS_out {l : List Clk} {ms : List Lmt} {p : List Int} {x : Int} (hx : (ms.length : Int) + (l.length : Int) ≤ x) : leafS l ms p x = false := by
  unfold leafS
  rw [decide_eq_false_iff_not]
  rintro ⟨b, hb, hi, _⟩
  rcases List.mem_append.1 hb with hb | hb
  · obtain ⟨i, hi', rfl⟩ := mem_limsB.1 hb
    simp only [limB] at hi; omega
  · obtain ⟨i, hi', _, rfl⟩ := mem_ownB.1 hb
    simp only at hi; omega
abbrev Sets := List (Option (List Int))
/-- The first j lists of a branch are given their settings. -/
def kidsR (n i : Nat) (c : Int) (s : List Int) (next : List Int) (S : Sets) : Nat → Option Sets
  | 0 => some S
  | j + 1 => (kidsR n i c s next S j).bind fun S' => if next.getD j 0 ≤ (i : Int) ∨ (n : Int) ≤ next.getD j 0 ∨ (S'.getD (next.getD j 0).toNat none).isSome = true then none else some (S'.set (next.getD j 0).toNat (some (s.set c.toNat (j : Int))))
/-- The branch has a list as it should be. -/
def NodeOk (l : List Clk) (s : List Int) (x : Brn) : Prop := x.limit = -1 ∧ 0 ≤ x.clock ∧ x.clock < l.length ∧ sOf s x.clock.toNat < 0 ∧ (x.next.length : Int) = kOf l x.clock.toNat
def LeafOk (l : List Clk) (ms : List Lmt) (s : List Int) (x : Brn) : Prop := x.clock = 0 ∧ x.next = [] ∧ leafS l ms s x.limit = true
noncomputable def stepRf (l : List Clk) (ms : List Lmt) (n i : Nat) (x : Brn) (S : Sets) : Option Sets :=
  match S.getD i none with
  | none => none
  | some s =>
    if 0 ≤ x.limit then (if LeafOk l ms s x then some S else none)
    else if NodeOk l s x then kidsR n i x.clock s x.next S x.next.length else none
noncomputable def runRf (l : List Clk) (ms : List Lmt) (b : List Brn) : Nat → Option Sets
  | 0 => some (some (startS l) :: List.replicate (b.length - 1) none)
  | i + 1 => (runRf l ms b i).bind fun S => stepRf l ms b.length i (b.getD i ⟨0, 0, []⟩) S
noncomputable def refChk (l : List Clk) (ms : List Lmt) (b : List Brn) : Bool := (runRf l ms b b.length).isSome
theorem runRf_none {l : List Clk} {ms : List Lmt} {b : List Brn} {i : Nat} (h : runRf l ms b i = none) : ∀ j, i ≤ j → runRf l ms b j = none := by
  intro j hj
  induction j with
  | zero => have : i = 0 := by omega
            subst this; exact h
  | succ j ih =>
    by_cases e : i = j + 1
    · subst e; exact h
    · simp only [runRf]; rw [ih (by omega)]; rfl
theorem kidsR_none {n i : Nat} {c : Int} {s next : List Int} {S : Sets} {j : Nat} (h : kidsR n i c s next S j = none) : ∀ k, j ≤ k → kidsR n i c s next S k = none := by
  intro k hk
  induction k with
  | zero => have : j = 0 := by omega
            subst this; exact h
  | succ k ih =>
    by_cases e : j = k + 1
    · subst e; exact h
    · simp only [kidsR]; rw [ih (by omega)]; rfl
/-- All that is given is a partial setting. -/
def SetsOk (l : List Clk) (S : Sets) : Prop := ∀ s, some s ∈ S → PrtOk l s
theorem kidsR_ok {l : List Clk} {n i : Nat} {c : Nat} {s next : List Int} {S : Sets} (hc : c < l.length) (hs : PrtOk l s) (hn : (next.length : Int) = kOf l c) (hS : SetsOk l S) : ∀ j, j ≤ next.length → ∀ S', kidsR n i c s next S j = some S' → SetsOk l S' ∧ S'.length = S.length := by
  intro j
  induction j with
  | zero => intro _ S' h; injection h with h; subst h; exact ⟨hS, rfl⟩
  | succ j ih =>
    intro hj S' h
    simp only [kidsR] at h
    cases e : kidsR n i c s next S j with
    | none => rw [e] at h; cases h
    | some S1 =>
      rw [e] at h
      simp only [Option.bind_some] at h
      split at h
      · cases h
      · injection h with h
        subst h
        obtain ⟨h1, h2⟩ := ih (by omega) S1 e
        refine ⟨fun t ht => ?_, by rw [List.length_set]; exact h2⟩
        rcases List.mem_or_eq_of_mem_set ht with q | q
        · exact h1 t q
        · injection q with q
          subst q
          rw [Int.toNat_natCast]
          exact hs.set hc (by omega) (by omega)
theorem sets_getD {S : Sets} {i : Nat} {s : List Int} (h : S.getD i none = some s) : some s ∈ S ∧ i < S.length := by
  rw [List.getD_eq_getElem?_getD] at h
  cases e : S[i]? with
  | none => rw [e] at h; cases h
  | some o =>
    rw [e] at h
    simp only [Option.getD_some] at h
    subst h
    exact ⟨List.mem_of_getElem? e, (List.getElem?_eq_some_iff.1 e).1⟩
theorem runRf_ok {l : List Clk} {ms : List Lmt} {b : List Brn} (hc : cchk l = 0) (hb : 0 < b.length) : ∀ i S, runRf l ms b i = some S → SetsOk l S ∧ S.length = b.length := by
  intro i
  induction i with
  | zero =>
    intro S h
    injection h with h
    subst h
    refine ⟨fun s hs => ?_, by simp; omega⟩
    rcases List.mem_cons.1 hs with q | q
    · injection q with q; subst q; exact startS_ok hc
    · have := List.eq_of_mem_replicate q; cases this
  | succ i ih =>
    intro S h
    simp only [runRf] at h
    cases e : runRf l ms b i with
    | none => rw [e] at h; cases h
    | some S1 =>
      rw [e] at h
      obtain ⟨h1, h2⟩ := ih S1 e
      simp only [Option.bind_some, stepRf] at h
      cases e2 : S1.getD i none with
      | none => rw [e2] at h; cases h
      | some s =>
        rw [e2] at h
        simp only at h
        split at h
        · split at h
          · injection h with h; subst h; exact ⟨h1, h2⟩
          · cases h
        · split at h
          · rename_i hx
            obtain ⟨_, x0, x1, _, x3⟩ := hx
            have hs := h1 s (sets_getD e2).1
            have e3 : ((b.getD i ⟨0, 0, []⟩).clock) = (((b.getD i ⟨0, 0, []⟩).clock).toNat : Int) := by omega
            rw [e3] at h
            have := kidsR_ok (c := ((b.getD i ⟨0, 0, []⟩).clock).toNat) (by omega) hs x3 h1 _ (Nat.le_refl _) S h
            exact ⟨this.1, this.2.trans h2⟩
          · cases h
end Go.Proofs.YtenehghpmnajpaaGreatDoor
/-! Plain: what the program's check of branches computes; the refutation that the program builds is accepted by both checks. No program in sight. -/
set_option linter.unusedVariables false
set_option linter.unusedSimpArgs false
namespace Go.Proofs.YtenehghpmnajpaaGreatDoor
open Go.RowKit
open Classical
/-- The branches of b from a on begin with R. -/
def SegAt (b : List Brn) (a : Nat) (R : List Brn) : Prop := ∀ i (h : i < R.length), b[a + i]? = some R[i]
theorem SegAt.left {b : List Brn} {a : Nat} {R Q : List Brn} (h : SegAt b a (R ++ Q)) : SegAt b a R := fun i hi => by
  have := h i (by simp; omega)
  rwa [List.getElem_append_left hi] at this
theorem SegAt.right {b : List Brn} {a : Nat} {R Q : List Brn} (h : SegAt b a (R ++ Q)) : SegAt b (a + R.length) Q := fun i hi => by
  have := h (R.length + i) (by simp; omega)
  rw [List.getElem_append_right (by omega)] at this
  rw [Nat.add_assoc, this]
  simp
theorem SegAt.head {b : List Brn} {a : Nat} {x : Brn} {R : List Brn} (h : SegAt b a (x :: R)) : b[a]? = some x := h 0 (by simp)
theorem SegAt.tail {b : List Brn} {a : Nat} {x : Brn} {R : List Brn} (h : SegAt b a (x :: R)) : SegAt b (a + 1) R := fun i hi => by
  have := h (i + 1) (by simpa using hi)
  rw [show a + 1 + i = a + (i + 1) by omega, this]
  simp
theorem kids_getD (f : List Int → Nat → List Brn) (p : List Int) (nx a : Nat) : ∀ K k, k < K → (kidsGo f p nx a K).2.getD k 0 = ((a + (kidsGo f p nx a k).1.length : Nat) : Int) := by
  intro K
  induction K with
  | zero => intro k h; omega
  | succ K ih =>
    intro k h
    simp only [kidsGo]
    by_cases e : k = K
    · subst e
      rw [List.getD_eq_getElem?_getD, List.getElem?_append_right (by rw [kidsGo_len]; omega), kidsGo_len, Nat.sub_self]; rfl
    · rw [List.getD_eq_getElem?_getD, List.getElem?_append_left (by rw [kidsGo_len]; omega), ← List.getD_eq_getElem?_getD]
      exact ih k (by omega)
theorem kids_step (f : List Int → Nat → List Brn) (p : List Int) (nx a k : Nat) : (kidsGo f p nx a (k + 1)).1.length = (kidsGo f p nx a k).1.length + (f (p.set nx k) (a + (kidsGo f p nx a k).1.length)).length := by
  simp [kidsGo]
theorem kids_le (f : List Int → Nat → List Brn) (p : List Int) (nx a : Nat) {i j : Nat} (h : i ≤ j) : (kidsGo f p nx a i).1.length ≤ (kidsGo f p nx a j).1.length := by
  induction j with
  | zero => have : i = 0 := by omega
            subst this; exact Nat.le_refl _
  | succ j ih =>
    by_cases e : i = j + 1
    · subst e; exact Nat.le_refl _
    · have := ih (by omega)
      rw [kids_step]; omega
theorem kids_seg {f : List Int → Nat → List Brn} {p : List Int} {nx a : Nat} {b : List Brn} : ∀ K, SegAt b a (kidsGo f p nx a K).1 → ∀ k, k < K → SegAt b (a + (kidsGo f p nx a k).1.length) (f (p.set nx k) (a + (kidsGo f p nx a k).1.length)) := by
  intro K
  induction K with
  | zero => intro _ k h; omega
  | succ K ih =>
    intro h k hk
    simp only [kidsGo] at h
    by_cases e : k = K
    · subst e; exact h.right
    · exact ih h.left k (by omega)
theorem refB_pos (l : List Clk) (ms : List Lmt) (g : Nat) (p : List Int) (a : Nat) : 1 ≤ (refB l ms (g + 1) p a).length := by
  rw [refB]
  split
  · simp
  · simp
/-! What the program's check computes -/
def kidsP (f : Nat → List Int → List Bool → Option (List Bool)) (n i c : Nat) (s next : List Int) (N : List Bool) : Nat → Option (List Bool)
  | 0 => some N
  | j + 1 => (kidsP f n i c s next N j).bind fun N' => if next.getD j 0 ≤ (i : Int) ∨ (n : Int) ≤ next.getD j 0 ∨ N'.getD (next.getD j 0).toNat false = true then none else f (next.getD j 0).toNat (s.set c (j : Int)) (N'.set (next.getD j 0).toNat true)
noncomputable def visP (l : List Clk) (ms : List Lmt) (b : List Brn) : Nat → Nat → List Int → List Bool → Option (List Bool)
  | 0, _, _, _ => none
  | g + 1, i, s, N => match b[i]? with
    | none => none
    | some x => if 0 ≤ x.limit then (if LeafOk l ms s x then some N else none) else if NodeOk l s x then kidsP (visP l ms b g) b.length i x.clock.toNat s x.next N x.next.length else none
noncomputable def prgChk (l : List Clk) (ms : List Lmt) (b : List Brn) : Bool :=
  match visP l ms b b.length 0 (startS l) (List.replicate b.length false) with
  | none => false
  | some N => (N.drop 1).all id
theorem refB_leaf {l : List Clk} {ms : List Lmt} {g : Nat} {p : List Int} {a : Nat} {x : Int} (e : judge l ms p = (x, 0)) (h0 : 0 ≤ x) : refB l ms (g + 1) p a = [⟨x, 0, []⟩] := by
  rw [refB, e, if_pos h0]
theorem refB_node {l : List Clk} {ms : List Lmt} {g : Nat} {p : List Int} {a f : Nat} (e : judge l ms p = (-1, (f : Int))) : refB l ms (g + 1) p a =
    ⟨-1, f, (kidsGo (refB l ms g) p f (a + 1) (kOf l f).toNat).2⟩ :: (kidsGo (refB l ms g) p f (a + 1) (kOf l f).toNat).1 := by
  rw [refB, e, if_neg (by omega)]
  simp only [Int.toNat_natCast]
theorem node_ok {l : List Clk} {p : List Int} {f : Nat} {next : List Int} (hf : f < l.length) (ho : sOf p f = -1) (hn : (next.length : Int) = kOf l f) : NodeOk l p ⟨-1, f, next⟩ :=
  ⟨rfl, by simp only; omega, by simp only; omega, by simp only [Int.toNat_natCast]; omega, by simp only [Int.toNat_natCast]; exact hn⟩
theorem all_true_of {N : List Bool} {n : Nat} (hl : N.length = n) (h : ∀ k, 0 < k → k < n → N.getD k false = true) : (N.drop 1).all id = true := by
  rw [List.all_eq_true]
  intro x hx
  obtain ⟨k, hk, rfl⟩ := List.mem_iff_getElem.1 hx
  rw [List.getElem_drop]
  rw [List.length_drop] at hk
  have := h (1 + k) (by omega) (by omega)
  rw [List.getD_eq_getElem?_getD, List.getElem?_eq_getElem (by omega)] at this
  simpa using this
/-! The reference's check -/
noncomputable def runSeg (l : List Clk) (ms : List Lmt) (b : List Brn) (i : Nat) (S : Sets) : Nat → Option Sets
  | 0 => some S
  | m + 1 => (runSeg l ms b i S m).bind fun S' => stepRf l ms b.length (i + m) (b.getD (i + m) ⟨0, 0, []⟩) S'
theorem runRf_seg (l : List Clk) (ms : List Lmt) (b : List Brn) : ∀ i, runRf l ms b i = runSeg l ms b 0 (some (startS l) :: List.replicate (b.length - 1) none) i := by
  intro i
  induction i with
  | zero => rfl
  | succ i ih => simp only [runRf, runSeg]; rw [ih, Nat.zero_add]
theorem runSeg_add (l : List Clk) (ms : List Lmt) (b : List Brn) (i : Nat) (S : Sets) (m : Nat) : ∀ m', runSeg l ms b i S (m + m') = (runSeg l ms b i S m).bind fun S' => runSeg l ms b (i + m) S' m' := by
  intro m'
  induction m' with
  | zero => cases runSeg l ms b i S m <;> rfl
  | succ m' ih =>
    rw [← Nat.add_assoc]
    simp only [runSeg]
    rw [ih, Nat.add_assoc]
    cases runSeg l ms b i S m <;> rfl
theorem seg_one {l : List Clk} {ms : List Lmt} {b : List Brn} {a : Nat} {x : Brn} {R : List Brn} {S : Sets} (h : SegAt b a (x :: R)) : runSeg l ms b a S 1 = stepRf l ms b.length a x S := by
  have e : b.getD a ⟨0, 0, []⟩ = x := by rw [List.getD_eq_getElem?_getD, h.head]; rfl
  simp only [runSeg, Option.bind_some, Nat.add_zero]
  rw [e]
theorem getD_set_s (vs : Sets) (k j : Nat) (x : Option (List Int)) (hk : k < vs.length) : (vs.set k x).getD j none = if j = k then x else vs.getD j none := getD_set vs k j x none hk
theorem seg_refB {l : List Clk} {ms : List Lmt} (hc : cchk l = 0) (hm : LsOk l ms) (b : List Brn) : ∀ g p a, PrtOk l p → opens p < g → NoExt l ms p → ∀ (S : Sets), SegAt b a (refB l ms g p a) → S.length = b.length → a + (refB l ms g p a).length ≤ b.length →
    S.getD a none = some p → (∀ k, a < k → k < a + (refB l ms g p a).length → S.getD k none = none) →
    ∃ S', runSeg l ms b a S (refB l ms g p a).length = some S' ∧ S'.length = S.length ∧ ∀ k, (k ≤ a ∨ a + (refB l ms g p a).length ≤ k) → S'.getD k none = S.getD k none := by
  intro g
  induction g with
  | zero => intro p a _ ho; omega
  | succ g ih =>
    intro p a hp ho hn S hseg hS hlen hSa hfree
    rcases judge_is hc hm hp hn with ⟨y, hy, ⟨r, hr, hbr⟩, e, h0⟩ | ⟨f, e, hf, hof⟩
    · have eR := refB_leaf (g := g) (a := a) e h0
      rw [eR] at hseg hlen hfree ⊢
      refine ⟨S, ?_, rfl, fun k _ => rfl⟩
      have hl : LeafOk l ms p ⟨y.index, 0, []⟩ := ⟨rfl, rfl, decide_eq_true ⟨y, hy, rfl, r, hr, hbr⟩⟩
      simp only [List.length_cons, List.length_nil, Nat.zero_add]
      rw [seg_one hseg]
      simp only [stepRf, hSa]
      rw [if_pos h0, if_pos hl]
    · have eR := refB_node (g := g) (a := a) e
      rw [eR] at hseg hlen hfree ⊢
      obtain ⟨K, hK⟩ : ∃ K : Nat, (kOf l f).toNat = K := ⟨_, rfl⟩
      have hK' : kOf l f = (K : Int) := by rw [kOf_at hf] at hK ⊢; omega
      rw [hK] at hseg hlen hfree ⊢
      have g1 : 1 ≤ g := by
        have h1 := opens_set (p := p) (i := f) (x := 0) (by rw [hp.1]; exact hf) hof (by omega)
        omega
      obtain ⟨F, hF⟩ : ∃ F, refB l ms g = F := ⟨_, rfl⟩
      have Fpos : ∀ q c, 1 ≤ (F q c).length := fun q c => by
        obtain ⟨g', rfl⟩ : ∃ g', g = g' + 1 := ⟨g - 1, by omega⟩
        rw [← hF]; exact refB_pos l ms g' q c
      rw [hF] at hseg hlen hfree ⊢
      simp only [List.length_cons] at hlen hfree ⊢
      obtain ⟨c, hcd⟩ : ∃ c : Nat → Nat, c = fun k => a + 1 + (kidsGo F p f (a + 1) k).1.length := ⟨_, rfl⟩
      have c0 : c 0 = a + 1 := by rw [hcd]; rfl
      have cs : ∀ k, c (k + 1) = c k + (F (p.set f k) (c k)).length := fun k => by rw [hcd]; simp only; rw [kids_step]; omega
      have cle : ∀ i j, i ≤ j → c i ≤ c j := fun i j h => by rw [hcd]; simp only; have := kids_le F p f (a + 1) h; omega
      have clt : ∀ i j, i < j → c i < c j := fun i j h => by
        have h1 := cle (i + 1) j h
        have h2 := cs i
        have h3 := Fpos (p.set f i) (c i)
        omega
      have cK : c K = a + 1 + (kidsGo F p f (a + 1) K).1.length := by rw [hcd]
      have hnext : ∀ k, k < K → (kidsGo F p f (a + 1) K).2.getD k 0 = (c k : Int) := fun k hk => by rw [kids_getD F p f (a + 1) K k hk, hcd]
      have hx : NodeOk l p ⟨-1, f, (kidsGo F p f (a + 1) K).2⟩ := node_ok hf hof (by rw [kidsGo_len, hK'])
      have ca : ∀ k, a + 1 ≤ c k := fun k => by have := cle 0 k (by omega); omega
      have cn : ∀ k, k < K → c k < b.length := fun k hk => by have := clt k K hk; omega
      have key : ∀ k, k ≤ K → ∃ Sk, kidsR b.length a (f : Int) p (kidsGo F p f (a + 1) K).2 S k = some Sk ∧ Sk.length = S.length ∧ (∀ j, j < k → Sk.getD (c j) none = some (p.set f (j : Int))) ∧ ∀ q, (∀ j, j < k → q ≠ c j) → Sk.getD q none = S.getD q none := by
        intro k
        induction k with
        | zero => intro _; exact ⟨S, rfl, rfl, fun j hj => by omega, fun q _ => rfl⟩
        | succ k ihk =>
          intro hk
          obtain ⟨Sk, e1, e2, e3, e4⟩ := ihk (by omega)
          have hcl : c k < Sk.length := by rw [e2, hS]; exact cn k (by omega)
          have hno : Sk.getD (c k) none = none := by
            rw [e4 (c k) fun j hj => by have := clt j k hj; omega]
            exact hfree (c k) (by have := ca k; omega) (by have := clt k K (by omega); omega)
          refine ⟨Sk.set (c k) (some (p.set f (k : Int))), ?_, by rw [List.length_set, e2], fun j hj => ?_, fun q hq => ?_⟩
          · simp only [kidsR]
            rw [e1]
            simp only [Option.bind_some]
            rw [hnext k (by omega), if_neg (by
              rintro (q | q | q)
              · have := ca k; omega
              · have := cn k (by omega); omega
              · rw [Int.toNat_natCast, hno] at q; cases q), Int.toNat_natCast, Int.toNat_natCast]
          · rw [getD_set_s _ _ _ _ hcl]
            by_cases e : j = k
            · subst e; rw [if_pos rfl]
            · have := clt j k (by omega)
              rw [if_neg (by omega)]; exact e3 j (by omega)
          · rw [getD_set_s _ _ _ _ hcl, if_neg (hq k (by omega))]
            exact e4 q fun j hj => hq j (by omega)
      obtain ⟨S1, e1, e2, e3, e4⟩ := key K (Nat.le_refl _)
      have first : runSeg l ms b a S 1 = some S1 := by
        rw [seg_one hseg]
        simp only [stepRf, hSa]
        rw [if_neg (show ¬ (0 ≤ (-1 : Int)) by omega), if_pos hx, kidsGo_len]
        exact e1
      have runs : ∀ k, k ≤ K → ∃ T, runSeg l ms b (a + 1) S1 (kidsGo F p f (a + 1) k).1.length = some T ∧ T.length = S1.length ∧ ∀ q, (q ≤ a ∨ c k ≤ q) → T.getD q none = S1.getD q none := by
        intro k
        induction k with
        | zero => intro _; exact ⟨S1, rfl, rfl, fun q _ => rfl⟩
        | succ k ihk =>
          intro hk
          obtain ⟨T, t1, t2, t3⟩ := ihk (by omega)
          have hsg := kids_seg K hseg.tail k (by omega)
          have ck : a + 1 + (kidsGo F p f (a + 1) k).1.length = c k := by rw [hcd]
          rw [ck, ← hF] at hsg
          have h2 := opens_set (p := p) (i := f) (x := (k : Int)) (by rw [hp.1]; exact hf) hof (by omega)
          have hlast := cle (k + 1) K (by omega)
          have hck := cs k
          have := ih (p.set f k) (c k) (hp.set hf (by omega) (by omega)) (by omega) (hn.set (by rw [hp.1]; exact hf) hof) T hsg (by rw [t2, e2, hS]) (by rw [hF]; omega)
            (by rw [t3 (c k) (.inr (Nat.le_refl _))]; exact e3 k (by omega)) (fun q q1 q2 => by
              rw [hF] at q2
              rw [t3 q (.inr (by omega)), e4 q fun j hj => ?_]
              · exact hfree q (by have := ca k; omega) (by omega)
              · by_cases h : j ≤ k
                · have := cle j k h; omega
                · have := cle (k + 1) j (by omega); omega)
          rw [hF] at this
          obtain ⟨T', f1, f2, f3⟩ := this
          refine ⟨T', ?_, by rw [f2, t2], fun q hq => ?_⟩
          · rw [kids_step, runSeg_add, t1, ck]
            exact f1
          · rw [f3 q (by omega)]
            exact t3 q (by omega)
      obtain ⟨T, t1, t2, t3⟩ := runs K (Nat.le_refl _)
      refine ⟨T, ?_, by rw [t2, e2], fun k hk => ?_⟩
      · rw [Nat.add_comm, runSeg_add, first]
        exact t1
      · rw [t3 k (by omega)]
        refine e4 k fun j hj => ?_
        have h1 := ca j
        have h2 := clt j K hj
        omega
theorem refChk_refB {l : List Clk} {ms : List Lmt} (hc : cchk l = 0) (hm : LsOk l ms) (hn : NoExt l ms (startS l)) {g : Nat} (hg : opens (startS l) < g) : refChk l ms (refB l ms g (startS l) 0) = true := by
  have hpos : 1 ≤ (refB l ms g (startS l) 0).length := by
    obtain ⟨g', rfl⟩ : ∃ g', g = g' + 1 := ⟨g - 1, by omega⟩
    exact refB_pos l ms g' _ _
  obtain ⟨S', e1, _⟩ := seg_refB hc hm (refB l ms g (startS l) 0) g (startS l) 0 (startS_ok hc) hg hn (some (startS l) :: List.replicate ((refB l ms g (startS l) 0).length - 1) none)
    (fun i hi => by rw [Nat.zero_add, List.getElem?_eq_getElem hi]) (by simp; omega) (by omega) rfl (fun k h0 _ => by
      obtain ⟨k', rfl⟩ : ∃ k', k = k' + 1 := ⟨k - 1, by omega⟩
      rw [List.getD_eq_getElem?_getD, List.getElem?_cons_succ, List.getElem?_replicate]; split <;> rfl)
  unfold refChk
  rw [runRf_seg, e1]; rfl
/-! What stands in the refutation is small -/
def BrnW (x : Brn) : Prop := (-1 ≤ x.limit ∧ x.limit ≤ 1000) ∧ (0 ≤ x.clock ∧ x.clock ≤ 1000) ∧ x.next.length ≤ 8 ∧ ∀ y ∈ x.next, 0 ≤ y ∧ y ≤ 1000000
theorem allB_small {l : List Clk} {ms : List Lmt} {b : Bnd} (hl : l.length ≤ 16) (hm : ms.length ≤ 32) (h : b ∈ allB l ms) : 0 ≤ b.index ∧ b.index ≤ 1000 := by
  rcases List.mem_append.1 h with h | h
  · obtain ⟨j, hj, rfl⟩ := mem_limsB.1 h
    simp only [limB]; omega
  · obtain ⟨j, hj, _, rfl⟩ := mem_ownB.1 h
    simp only; omega
theorem kids_snd {f : List Int → Nat → List Brn} {p : List Int} {nx a : Nat} {y : Int} : ∀ K, y ∈ (kidsGo f p nx a K).2 → ∃ k, k < K ∧ y = ((a + (kidsGo f p nx a k).1.length : Nat) : Int) := by
  intro K
  induction K with
  | zero => intro h; simp [kidsGo] at h
  | succ K ih =>
    intro h
    simp only [kidsGo] at h
    rcases List.mem_append.1 h with h | h
    · obtain ⟨k, hk, e⟩ := ih h
      exact ⟨k, by omega, e⟩
    · exact ⟨K, by omega, by simpa using h⟩
theorem kids_fst {f : List Int → Nat → List Brn} {p : List Int} {nx a : Nat} {x : Brn} : ∀ K, x ∈ (kidsGo f p nx a K).1 → ∃ k, k < K ∧ x ∈ f (p.set nx (k : Int)) (a + (kidsGo f p nx a k).1.length) := by
  intro K
  induction K with
  | zero => intro h; simp [kidsGo] at h
  | succ K ih =>
    intro h
    simp only [kidsGo] at h
    rcases List.mem_append.1 h with h | h
    · obtain ⟨k, hk, e⟩ := ih h
      exact ⟨k, by omega, e⟩
    · exact ⟨K, by omega, h⟩
theorem refB_w {l : List Clk} {ms : List Lmt} (hc : cchk l = 0) (hm : LsOk l ms) : ∀ g p a, PrtOk l p → NoExt l ms p → a + (refB l ms g p a).length ≤ 1000000 → ∀ x ∈ refB l ms g p a, BrnW x := by
  obtain ⟨nb, _, _, _⟩ := cchk_zero hc
  have hl := small_len nb
  intro g
  induction g with
  | zero => intro p a _ _ _ x hx; simp [refB] at hx
  | succ g ih =>
    intro p a hp hn hlen x hx
    rcases judge_is hc hm hp hn with ⟨y, hy, _, e, h0⟩ | ⟨f, e, hf, hof⟩
    · rw [refB_leaf e h0] at hx
      have : x = ⟨y.index, 0, []⟩ := by simpa using hx
      subst this
      have := allB_small hl hm.1 hy
      exact ⟨⟨by simp only; omega, this.2⟩, by simp, by simp, by simp⟩
    · rw [refB_node e] at hx hlen
      obtain ⟨K, hK⟩ : ∃ K : Nat, (kOf l f).toNat = K := ⟨_, rfl⟩
      have hK' : kOf l f = (K : Int) := by rw [kOf_at hf] at hK ⊢; omega
      rw [hK] at hx hlen
      simp only [List.length_cons] at hlen
      have hk8 : K ≤ 8 := by
        have := (small_at nb hf).2
        rw [kOf_at hf] at hK'; omega
      rcases List.mem_cons.1 hx with e1 | hx
      · subst e1
        refine ⟨by simp, by simp only; omega, by rw [kidsGo_len]; exact hk8, fun y hy => ?_⟩
        obtain ⟨k, hk, rfl⟩ := kids_snd K hy
        have := kids_le (refB l ms g) p f (a + 1) (show k ≤ K by omega)
        omega
      · obtain ⟨k, hk, hx⟩ := kids_fst K hx
        have h1 := kids_le (refB l ms g) p f (a + 1) (show k + 1 ≤ K by omega)
        rw [kids_step] at h1
        exact ih (p.set f k) _ (hp.set hf (by omega) (by omega)) (hn.set (by rw [hp.1]; exact hf) hof) (by omega) x hx
end Go.Proofs.YtenehghpmnajpaaGreatDoor

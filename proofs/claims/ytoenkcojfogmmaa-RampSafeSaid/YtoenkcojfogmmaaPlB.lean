/- Plain laws of plans: each write of a plan is right, changes something and leads to rails that meet the draws; up ahead of down. -/
import Derived.Test.YtoenkcojfogmmaaPlA
import Derived.Test.YtoenkcojfogmmaaStA
set_option linter.unusedVariables false
set_option linter.unusedSimpArgs false
namespace Go.Proofs.Ytoenkcojfogmmaa
open Classical

/-- Every write, at its rails. -/
def Tr (P : Nat → Rls → Wri → Prop) (a : Rls) (ps : List Wri) : Prop := ∀ i (h : i < ps.length), P i (runW a (ps.take i)) ps[i]
theorem Tr.nil (P : Nat → Rls → Wri → Prop) (a : Rls) : Tr P a [] := fun i h => absurd h (by simp)
theorem Tr.snoc {P : Nat → Rls → Wri → Prop} {a : Rls} {ps : List Wri} {p : Wri} (h : Tr P a ps) (hp : P ps.length (runW a ps) p) : Tr P a (ps ++ [p]) := by
  intro i hi
  by_cases e : i < ps.length
  · rw [List.getElem_append_left e, List.take_append_of_le_length (by omega)]
    exact h i e
  · have e : i = ps.length := by simp at hi; omega
    subst e
    rw [List.take_left]
    simpa using hp
theorem runW_snoc (a : Rls) (ps : List Wri) (p : Wri) : runW a (ps ++ [p]) = applyR (runW a ps) p := by
  unfold runW; rw [List.foldl_append]; rfl
/-- A writer's rails are those that its writes lead to. -/
structure WInv (P : Nat → Rls → Wri → Prop) (a : Rls) (n : Nat) (s : Rls × List Wri) : Prop where
  run : s.1 = runW a s.2
  tr : Tr P a s.2
  n1 : s.1.on.length = n
  n2 : s.1.level.length = n
theorem WInv.level {P : Nat → Rls → Wri → Prop} {a : Rls} {n : Nat} {s : Rls × List Wri} (h : WInv P a n s) (k : Nat) (hk : k < n) (v : Int) (hp : lvAt s.1 k ≠ v → P s.2.length s.1 ⟨2, k, v⟩) : WInv P a n (wLevel s k v) := by
  obtain ⟨h1, h2, h3, h4⟩ := h
  have hl : k < s.1.level.length := by omega
  unfold wLevel
  by_cases e : lvAt s.1 k = v
  · rw [if_pos e, set_same s.1.level k hl v (by rw [← lvAt_eq hl]; exact e)]
    exact ⟨h1, h2, h3, h4⟩
  · rw [if_neg e]
    refine ⟨?_, h2.snoc (by rw [← h1]; exact hp e), h3, by simpa using h4⟩
    rw [runW_snoc, ← h1, applyR_lv (u := k) rfl rfl]
theorem WInv.supply {P : Nat → Rls → Wri → Prop} {a : Rls} {n : Nat} {s : Rls × List Wri} (h : WInv P a n s) (k : Nat) (hk : k < n) (v : Bool) (hp : onAt s.1 k ≠ v → P s.2.length s.1 ⟨3, k, if v = true then 1 else 0⟩) : WInv P a n (wSupply s k v) := by
  obtain ⟨h1, h2, h3, h4⟩ := h
  have hl : k < s.1.on.length := by omega
  unfold wSupply
  by_cases e : onAt s.1 k = v
  · rw [if_pos e, set_same s.1.on k hl v (by rw [← onAt_eq hl]; exact e)]
    exact ⟨h1, h2, h3, h4⟩
  · rw [if_neg e]
    refine ⟨?_, h2.snoc (by rw [← h1]; exact hp e), by simpa using h3, h4⟩
    rw [runW_snoc, ← h1, applyR_on (u := k) (by simp) rfl]
    cases v <;> rfl
theorem wLevel_on (s : Rls × List Wri) (k : Nat) (v : Int) (i : Nat) : onAt (wLevel s k v).1 i = onAt s.1 i := rfl
theorem wLevel_lv (s : Rls × List Wri) (k : Nat) (v : Int) (i : Nat) (hk : k < s.1.level.length) : lvAt (wLevel s k v).1 i = if i = k then v else lvAt s.1 i := by
  unfold wLevel lvAt
  exact getD_set _ _ _ _ _ hk
theorem wSupply_lv (s : Rls × List Wri) (k : Nat) (v : Bool) (i : Nat) : lvAt (wSupply s k v).1 i = lvAt s.1 i := rfl
theorem wSupply_on (s : Rls × List Wri) (k : Nat) (v : Bool) (i : Nat) (hk : k < s.1.on.length) : onAt (wSupply s k v).1 i = if i = k then v else onAt s.1 i := by
  unfold wSupply onAt
  exact getD_set _ _ _ _ _ hk
theorem ap_lv_on (x : Rls) (k : Nat) (v : Int) (i : Nat) : onAt (applyR x ⟨2, k, v⟩) i = onAt x i := by rw [applyR_lv (u := k) rfl rfl]; rfl
theorem ap_lv_lv (x : Rls) (k : Nat) (v : Int) (i : Nat) (hk : k < x.level.length) : lvAt (applyR x ⟨2, k, v⟩) i = if i = k then v else lvAt x i := by
  rw [applyR_lv (u := k) rfl rfl]; unfold lvAt; exact getD_set _ _ _ _ _ hk
theorem ap_on_on (x : Rls) (k : Nat) (v : Bool) (i : Nat) (hk : k < x.on.length) : onAt (applyR x ⟨3, k, if v = true then 1 else 0⟩) i = if i = k then v else onAt x i := by
  rw [applyR_on (u := k) (by simp) rfl]
  unfold onAt
  rw [getD_set _ _ _ _ _ hk]
  cases v <;> rfl
theorem ap_on_lv (x : Rls) (k : Nat) (v : Bool) (i : Nat) : lvAt (applyR x ⟨3, k, if v = true then 1 else 0⟩) i = lvAt x i := by rw [applyR_on (u := k) (by simp) rfl]; rfl

/-- What is asked of each write. -/
def StepOk (l : List Sup) (d : List Drw) (x : Rls) (p : Wri) : Prop := WOk l p ∧ MeetsAll l (applyR x p) d ∧ applyR x p ≠ x
/-- It lowers or switches off; it raises or switches on. -/
def IsDown (x : Rls) (p : Wri) : Prop := (p.kind = 3 ∧ p.value = 0) ∨ (p.kind = 2 ∧ onAt x p.unit.toNat = true ∧ lvAt (applyR x p) p.unit.toNat < lvAt x p.unit.toNat)
def IsUp (x : Rls) (p : Wri) : Prop := (p.kind = 3 ∧ p.value = 1) ∨ (p.kind = 2 ∧ onAt x p.unit.toNat = true ∧ lvAt x p.unit.toNat < lvAt (applyR x p) p.unit.toNat)
theorem wok_lv {l : List Sup} {r : Rls} (hr : RlsOk l r) {k : Nat} (hk : k < l.length) : WOk l ⟨2, k, lvAt r k⟩ := by
  have h2 := hr.2.2.1
  have hl : k < r.level.length := by omega
  have := hr.2.2.2 k hk hl
  rw [lvAt_eq hl]
  refine ⟨.inl rfl, by simp, by simp; omega, ?_⟩
  unfold BadVal lvLen
  simp only [Int.toNat_natCast]
  rw [dif_pos ⟨by omega, by omega⟩]
  omega
theorem wok_on {l : List Sup} (v : Bool) {k : Nat} (hk : k < l.length) : WOk l ⟨3, k, if v = true then 1 else 0⟩ := by
  refine ⟨.inr rfl, by simp, by simp; omega, ?_⟩
  unfold BadVal
  cases v <;> simp
theorem ne_lv {x : Rls} {k : Nat} {v : Int} (hk : k < x.level.length) (h : lvAt x k ≠ v) : applyR x ⟨2, k, v⟩ ≠ x := by
  intro e
  have := ap_lv_lv x k v k hk
  rw [if_pos rfl, e] at this
  exact h this
theorem ne_on {x : Rls} {k : Nat} {v : Bool} (hk : k < x.on.length) (h : onAt x k ≠ v) : applyR x ⟨3, k, if v = true then 1 else 0⟩ ≠ x := by
  intro e
  have := ap_on_on x k v k hk
  rw [if_pos rfl, e] at this
  exact h this
section
variable {l : List Sup} {d : List Drw} {a b : Rls}
/-- Rails in the up phase: below k as in the join, from k on as they were. -/
structure UpAt (l : List Sup) (a b : Rls) (k : Nat) (x : Rls) : Prop where
  ok : RlsOk l x
  lo : ∀ i, i < k → i < l.length → As x (joinR a b) i
  hi : ∀ i, k ≤ i → i < l.length → onAt x i = onAt a i ∧ lvAt x i = lvAt a i
/-- lo below k, mid at k, hi above. -/
def md (lo mid hi : Rls) (k i : Nat) : Rls := if i < k then lo else if i = k then mid else hi
theorem md_lo {lo mid hi : Rls} {k i : Nat} (h : i < k) : md lo mid hi k i = lo := by simp [md, h]
theorem md_mid {lo mid hi : Rls} {k : Nat} : md lo mid hi k k = mid := by simp [md]
theorem md_hi {lo mid hi : Rls} {k i : Nat} (h : k < i) : md lo mid hi k i = hi := by
  have h1 : ¬ i < k := by omega
  have h2 : i ≠ k := by omega
  simp [md, h1, h2]
/-- As in the join below k, as in r above, one of both at k. -/
theorem step_meets (ha : MeetsAll l a d) (hb : MeetsAll l b d) {k : Nat} {x : Rls} (hx : RlsOk l x) (r m : Rls) (hr : r = a ∨ r = b) (hm : m = r ∨ m = joinR a b) (lo : ∀ i, i < k → i < l.length → As x (joinR a b) i) (mid : k < l.length → As x m k) (hi : ∀ i, k < i → i < l.length → As x r i) : MeetsAll l x d := by
  have hz := chk_zero ha.2.1.1
  have hr' : r = a ∨ r = joinR a b ∨ r = b := hr.elim .inl (fun e => .inr (.inr e))
  refine mixed_meets ha hb hx (md (joinR a b) m r k) (fun i _ => ?_) (fun i h => ?_) (fun i h hp => ?_)
  · rcases Nat.lt_trichotomy i k with e | e | e
    · rw [md_lo e]; exact .inr (.inl rfl)
    · subst e
      rw [md_mid]
      rcases hm with e | e
      · rw [e]; exact hr'
      · exact .inr (.inl e)
    · rw [md_hi e]; exact hr'
  · rcases Nat.lt_trichotomy i k with e | e | e
    · rw [md_lo e]; exact lo i e h
    · subst e; rw [md_mid]; exact mid h
    · rw [md_hi e]; exact hi i e h
  · obtain ⟨_, z⟩ := hz.2 i h
    have hpi := z.1.2.1
    rcases Nat.lt_trichotomy l[i].parent.toNat k with e | e | e
    · left; rw [md_lo e]
    · rw [e, md_mid, md_hi (show k < i by omega)]
      rcases hm with e | e
      · exact .inr e
      · exact .inl e
    · right; rw [md_hi e, md_hi (show k < i by omega)]
theorem as_refl (x : Rls) (i : Nat) : As x x i := ⟨rfl, fun _ => rfl⟩
/-- The up phase. -/
def Pup (l : List Sup) (d : List Drw) (_ : Nat) (x : Rls) (p : Wri) : Prop := StepOk l d x p ∧ ¬ IsDown x p
theorem up_phase (ha : MeetsAll l a d) (hb : MeetsAll l b d) (k : Nat) (hk : k ≤ l.length) : WInv (Pup l d) a l.length (upTo (joinR a b) (a, []) k) ∧ UpAt l a b k (upTo (joinR a b) (a, []) k).1 := by
  have ra := ha.2.1
  have rb := hb.2.1
  have rj := join_okP ra rb
  induction k with
  | zero => exact ⟨⟨rfl, Tr.nil _ _, ra.2.1, ra.2.2.1⟩, ⟨ra, fun i h => absurd h (by omega), fun i _ _ => ⟨rfl, rfl⟩⟩⟩
  | succ k ih =>
    obtain ⟨hw, hu⟩ := ih (by omega)
    have hkl : k < l.length := by omega
    generalize hs : upTo (joinR a b) (a, []) k = s at hw hu
    rw [upTo, hs]
    have hon := hu.hi k (Nat.le_refl _) hkl
    have hi' : ∀ i, k < i → i < l.length → As s.1 a i := fun i h1 h2 => ⟨(hu.hi i (by omega) h2).1, fun _ => (hu.hi i (by omega) h2).2⟩
    by_cases ho : onAt (joinR a b) k = true
    · rw [if_pos ho]
      have hl1 : k < s.1.level.length := by rw [hw.n2]; exact hkl
      have hl2 : k < s.1.on.length := by rw [hw.n1]; exact hkl
      -- the level
      have w1 : WInv (Pup l d) a l.length (wLevel s k (lvAt (joinR a b) k)) := by
        refine hw.level k hkl _ (fun hne => ⟨⟨wok_lv rj hkl, ?_, ne_lv hl1 hne⟩, ?_⟩)
        · have hx : RlsOk l (applyR s.1 ⟨2, k, lvAt (joinR a b) k⟩) := applyR_ok (wok_lv rj hkl) hu.ok
          by_cases hoa : onAt a k = true
          · refine step_meets (k := k) ha hb hx a (joinR a b) (.inl rfl) (.inr rfl) (fun i h1 h2 => ?_) (fun _ => ?_) (fun i h1 h2 => ?_)
            · have := hu.lo i h1 h2
              unfold As at *
              rw [ap_lv_on, ap_lv_lv _ _ _ _ hl1, if_neg (by omega)]; exact this
            · unfold As
              rw [ap_lv_on, ap_lv_lv _ _ _ _ hl1, if_pos rfl, hon.1, hoa, ho]; exact ⟨rfl, fun _ => rfl⟩
            · have := hi' i h1 h2
              unfold As at *
              rw [ap_lv_on, ap_lv_lv _ _ _ _ hl1, if_neg (by omega)]; exact this
          · refine step_meets (k := k) ha hb hx a a (.inl rfl) (.inl rfl) (fun i h1 h2 => ?_) (fun _ => ?_) (fun i h1 h2 => ?_)
            · have := hu.lo i h1 h2
              unfold As at *
              rw [ap_lv_on, ap_lv_lv _ _ _ _ hl1, if_neg (by omega)]; exact this
            · unfold As
              rw [ap_lv_on, hon.1]; exact ⟨rfl, fun q => absurd q hoa⟩
            · have := hi' i h1 h2
              unfold As at *
              rw [ap_lv_on, ap_lv_lv _ _ _ _ hl1, if_neg (by omega)]; exact this
        · rintro (⟨q, _⟩ | ⟨_, q1, q2⟩)
          · simp at q
          · simp only [Int.toNat_natCast] at q1 q2
            rw [ap_lv_lv _ _ _ _ hl1, if_pos rfl, hon.2] at q2
            rw [hon.1] at q1
            have := join_ge_a rb hkl q1
            omega
      have hs1 : ∀ i, lvAt (wLevel s k (lvAt (joinR a b) k)).1 i = if i = k then lvAt (joinR a b) k else lvAt s.1 i := fun i => wLevel_lv s k _ i hl1
      have okl : RlsOk l (wLevel s k (lvAt (joinR a b) k)).1 := by
        refine ⟨ra.1, w1.n1, w1.n2, fun i h1 h2 => ?_⟩
        rw [← lvAt_eq h2, hs1]
        split
        · rename_i e; subst e
          have := rj.2.2.2 i h1 (by have := rj.2.2.1; omega)
          rwa [← lvAt_eq] at this
        · have := hu.ok.2.2.2 i h1 (by have := hw.n2; omega)
          rwa [← lvAt_eq] at this
      have hl3 : k < (wLevel s k (lvAt (joinR a b) k)).1.on.length := by rw [w1.n1]; exact hkl
      have loS : ∀ i, i < k → i < l.length → As (wLevel s k (lvAt (joinR a b) k)).1 (joinR a b) i := fun i h1 h2 => by
        have := hu.lo i h1 h2
        unfold As at *
        rw [wLevel_on, hs1, if_neg (by omega)]; exact this
      have hiS : ∀ i, k < i → i < l.length → onAt (wLevel s k (lvAt (joinR a b) k)).1 i = onAt a i ∧ lvAt (wLevel s k (lvAt (joinR a b) k)).1 i = lvAt a i := fun i h1 h2 => by
        have := hu.hi i (by omega) h2
        rw [wLevel_on, hs1, if_neg (by omega)]; exact this
      generalize hs2 : wLevel s k (lvAt (joinR a b) k) = s2 at w1 okl hl3 loS hiS
      have lvk : lvAt s2.1 k = lvAt (joinR a b) k := by rw [← hs2, hs1, if_pos rfl]
      -- the supply
      have asf : ∀ i, k < i → i < l.length → As s2.1 a i := fun i h1 h2 => ⟨(hiS i h1 h2).1, fun _ => (hiS i h1 h2).2⟩
      have w2 : WInv (Pup l d) a l.length (wSupply s2 k true) := by
        refine w1.supply k hkl true (fun hne => ⟨⟨wok_on true hkl, ?_, ne_on hl3 hne⟩, ?_⟩)
        · have hx := applyR_ok (wok_on true hkl) okl
          refine step_meets (k := k) ha hb hx a (joinR a b) (.inl rfl) (.inr rfl) (fun i h1 h2 => ?_) (fun _ => ?_) (fun i h1 h2 => ?_)
          · have := loS i h1 h2
            unfold As at *
            rw [ap_on_on _ _ _ _ hl3, ap_on_lv, if_neg (by omega)]; exact this
          · unfold As
            rw [ap_on_on _ _ _ _ hl3, ap_on_lv, if_pos rfl, ho]; exact ⟨rfl, fun _ => lvk⟩
          · have := asf i h1 h2
            unfold As at *
            rw [ap_on_on _ _ _ _ hl3, ap_on_lv, if_neg (by omega)]; exact this
        · rintro (⟨_, q⟩ | ⟨q, _⟩) <;> simp at q
      refine ⟨w2, ⟨?_, fun i h1 h2 => ?_, fun i h1 h2 => ?_⟩⟩
      · refine ⟨ra.1, w2.n1, w2.n2, fun i h1 h2 => ?_⟩
        have h3 : i < s2.1.level.length := by rw [w1.n2]; exact h1
        have := okl.2.2.2 i h1 h3
        rw [← lvAt_eq h2, wSupply_lv, lvAt_eq h3]; exact this
      · unfold As
        rw [wSupply_on _ _ _ _ hl3, wSupply_lv]
        by_cases e : i = k
        · subst e; rw [if_pos rfl, ho]; exact ⟨rfl, fun _ => lvk⟩
        · rw [if_neg e]; exact loS i (by omega) h2
      · rw [wSupply_on _ _ _ _ hl3, wSupply_lv, if_neg (by omega)]; exact hiS i (by omega) h2
    · rw [if_neg ho]
      refine ⟨hw, ⟨hu.ok, fun i h1 h2 => ?_, fun i h1 h2 => hu.hi i (by omega) h2⟩⟩
      by_cases e : i = k
      · subst e
        have hj : onAt (joinR a b) i = false := by simpa using ho
        have := join_on_at (a := a) rb h2
        rw [hj] at this
        have h3 : onAt a i = false := by
          cases q : onAt a i with
          | false => rfl
          | true => rw [q] at this; simp at this
        exact ⟨by rw [hon.1, h3, hj], fun q => absurd q ho⟩
      · exact hu.lo i (by omega) h2
/-- The down phase: behind the first c writes. -/
def Pall (l : List Sup) (d : List Drw) (c : Nat) (i : Nat) (x : Rls) (p : Wri) : Prop := StepOk l d x p ∧ (i < c → ¬ IsDown x p) ∧ (c ≤ i → ¬ IsUp x p)
structure DnAt (l : List Sup) (a b : Rls) (k : Nat) (x : Rls) : Prop where
  ok : RlsOk l x
  lo : ∀ i, i < k → i < l.length → As x (joinR a b) i
  hi : ∀ i, k ≤ i → i < l.length → onAt x i = onAt b i ∧ lvAt x i = lvAt b i
theorem down_phase (ha : MeetsAll l a d) (hb : MeetsAll l b d) (s0 : Rls × List Wri) (h0 : WInv (Pup l d) a l.length s0) (u0 : UpAt l a b l.length s0.1) (m : Nat) (hm : m ≤ l.length) :
    WInv (Pall l d s0.2.length) a l.length (downTo b l.length s0 m) ∧ DnAt l a b (l.length - m) (downTo b l.length s0 m).1 ∧ s0.2.length ≤ (downTo b l.length s0 m).2.length := by
  have ra := ha.2.1
  have rb := hb.2.1
  have rj := join_okP ra rb
  induction m with
  | zero =>
    refine ⟨⟨h0.run, fun i h => ?_, h0.n1, h0.n2⟩, ⟨u0.ok, fun i h1 h2 => u0.lo i (by omega) h2, fun i h1 h2 => absurd h1 (by omega)⟩, Nat.le_refl _⟩
    have := h0.tr i h
    exact ⟨this.1, fun _ => this.2, fun q => absurd q (by have : i < s0.2.length := h; omega)⟩
  | succ m ih =>
    obtain ⟨hw, hu, hlen⟩ := ih (by omega)
    obtain ⟨j, hj⟩ : ∃ j, j = l.length - 1 - m := ⟨_, rfl⟩
    have hjl : j < l.length := by omega
    have e1 : l.length - m = j + 1 := by omega
    have e2 : l.length - (m + 1) = j := by omega
    rw [e1] at hu
    rw [e2, downTo, ← hj]
    generalize hs : downTo b l.length s0 m = s at hw hu hlen
    have hl2 : j < s.1.on.length := by rw [hw.n1]; exact hjl
    have hi' : ∀ i, j < i → i < l.length → As s.1 b i := fun i h1 h2 => ⟨(hu.hi i (by omega) h2).1, fun _ => (hu.hi i (by omega) h2).2⟩
    have lo' : ∀ i, i < j → i < l.length → As s.1 (joinR a b) i := fun i h1 h2 => hu.lo i (by omega) h2
    -- behind the supply: as b at j if b is off there; else as the join
    have key : ∃ s2, (if onAt b j = true then s else wSupply s j false) = s2 ∧ WInv (Pall l d s0.2.length) a l.length s2 ∧ RlsOk l s2.1 ∧ (∀ i, i < j → i < l.length → As s2.1 (joinR a b) i) ∧ (∀ i, j < i → i < l.length → onAt s2.1 i = onAt b i ∧ lvAt s2.1 i = lvAt b i) ∧ onAt s2.1 j = onAt b j ∧ (onAt b j = true → lvAt s2.1 j = lvAt (joinR a b) j) ∧ s0.2.length ≤ s2.2.length := by
      by_cases ho : onAt b j = true
      · rw [if_pos ho]
        have hjn : onAt (joinR a b) j = true := by rw [join_on_at rb hjl, ho]; simp
        have := hu.lo j (by omega) hjl
        exact ⟨s, rfl, hw, hu.ok, lo', fun i h1 h2 => hu.hi i (by omega) h2, by rw [this.1, hjn, ho], fun _ => this.2 hjn, hlen⟩
      · rw [if_neg ho]
        have hof : onAt b j = false := by simpa using ho
        have w2 : WInv (Pall l d s0.2.length) a l.length (wSupply s j false) := by
          refine hw.supply j hjl false (fun hne => ⟨⟨wok_on false hjl, ?_, ne_on hl2 hne⟩, fun q => absurd q (by omega), fun _ => ?_⟩)
          · have hx := applyR_ok (wok_on false hjl) hu.ok
            refine step_meets (k := j) ha hb hx b b (.inr rfl) (.inl rfl) (fun i h1 h2 => ?_) (fun _ => ?_) (fun i h1 h2 => ?_)
            · have := lo' i h1 h2
              unfold As at *
              rw [ap_on_on _ _ _ _ hl2, ap_on_lv, if_neg (by omega)]; exact this
            · unfold As
              rw [ap_on_on _ _ _ _ hl2, if_pos rfl, hof]; exact ⟨rfl, fun q => by cases q⟩
            · have := hi' i h1 h2
              unfold As at *
              rw [ap_on_on _ _ _ _ hl2, ap_on_lv, if_neg (by omega)]; exact this
          · rintro (⟨_, q⟩ | ⟨q, _⟩) <;> simp at q
        refine ⟨_, rfl, w2, ?_, fun i h1 h2 => ?_, fun i h1 h2 => ?_, ?_, fun q => absurd q ho, ?_⟩
        · refine ⟨ra.1, w2.n1, w2.n2, fun i h1 h2 => ?_⟩
          have h3 : i < s.1.level.length := by rw [hw.n2]; exact h1
          have := hu.ok.2.2.2 i h1 h3
          rw [← lvAt_eq h2, wSupply_lv, lvAt_eq h3]; exact this
        · have := lo' i h1 h2
          unfold As at *
          rw [wSupply_on _ _ _ _ hl2, wSupply_lv, if_neg (by omega)]; exact this
        · rw [wSupply_on _ _ _ _ hl2, wSupply_lv, if_neg (by omega)]; exact hu.hi i (by omega) h2
        · rw [wSupply_on _ _ _ _ hl2, if_pos rfl, hof]
        · unfold wSupply; simp only; split
          · exact hlen
          · simp; omega
    obtain ⟨s2, e, w2, ok2, lo2, hi2, on2, lv2, len2⟩ := key
    rw [e]
    have hl1 : j < s2.1.level.length := by rw [w2.n2]; exact hjl
    have asb : ∀ i, j < i → i < l.length → As s2.1 b i := fun i h1 h2 => ⟨(hi2 i h1 h2).1, fun _ => (hi2 i h1 h2).2⟩
    have w3 : WInv (Pall l d s0.2.length) a l.length (wLevel s2 j (lvAt b j)) := by
      refine w2.level j hjl _ (fun hne => ⟨⟨wok_lv rb hjl, ?_, ne_lv hl1 hne⟩, fun q => absurd q (by omega), fun _ => ?_⟩)
      · have hx : RlsOk l (applyR s2.1 ⟨2, j, lvAt b j⟩) := applyR_ok (wok_lv rb hjl) ok2
        refine step_meets (k := j) ha hb hx b b (.inr rfl) (.inl rfl) (fun i h1 h2 => ?_) (fun _ => ?_) (fun i h1 h2 => ?_)
        · have := lo2 i h1 h2
          unfold As at *
          rw [ap_lv_on, ap_lv_lv _ _ _ _ hl1, if_neg (by omega)]; exact this
        · unfold As
          rw [ap_lv_on, ap_lv_lv _ _ _ _ hl1, if_pos rfl, on2]; exact ⟨rfl, fun _ => rfl⟩
        · have := asb i h1 h2
          unfold As at *
          rw [ap_lv_on, ap_lv_lv _ _ _ _ hl1, if_neg (by omega)]; exact this
      · rintro (⟨q, _⟩ | ⟨_, q1, q2⟩)
        · simp at q
        · simp only [Int.toNat_natCast] at q1 q2
          rw [ap_lv_lv _ _ _ _ hl1, if_pos rfl] at q2
          rw [on2] at q1
          rw [lv2 q1] at q2
          have := join_ge_b (a := a) rb hjl q1
          omega
    have hs1 : ∀ i, lvAt (wLevel s2 j (lvAt b j)).1 i = if i = j then lvAt b j else lvAt s2.1 i := fun i => wLevel_lv s2 j _ i hl1
    refine ⟨w3, ⟨?_, fun i h1 h2 => ?_, fun i h1 h2 => ?_⟩, ?_⟩
    · refine ⟨ra.1, w3.n1, w3.n2, fun i h1 h2 => ?_⟩
      rw [← lvAt_eq h2, hs1]
      split
      · rename_i e; subst e
        have := rb.2.2.2 i h1 (by have := rb.2.2.1; omega)
        rwa [← lvAt_eq] at this
      · have := ok2.2.2.2 i h1 (by have := w2.n2; omega)
        rwa [← lvAt_eq] at this
    · have := lo2 i h1 h2
      unfold As at *
      rw [wLevel_on, hs1, if_neg (by omega)]; exact this
    · rw [wLevel_on, hs1]
      by_cases e : i = j
      · subst e; rw [if_pos rfl]; exact ⟨on2, rfl⟩
      · rw [if_neg e]; exact hi2 i (by omega) h2
    · unfold wLevel; simp only; split
      · exact len2
      · simp; omega
theorem rls_ext' {a b : Rls} (h1 : a.on.length = b.on.length) (h2 : a.level.length = b.level.length) (h3 : ∀ k, k < a.on.length → onAt a k = onAt b k) (h4 : ∀ k, k < a.level.length → lvAt a k = lvAt b k) : a = b := by
  obtain ⟨o, lv⟩ := a
  obtain ⟨o', lv'⟩ := b
  simp only at h1 h2
  congr 1
  · refine List.ext_getElem h1 fun k q1 q2 => ?_
    have := h3 k q1
    rwa [onAt_eq q1, onAt_eq q2] at this
  · refine List.ext_getElem h2 fun k q1 q2 => ?_
    have := h4 k q1
    rwa [lvAt_eq q1, lvAt_eq q2] at this
/-- The law of plans. -/
theorem plan_law (ha : MeetsAll l a d) (hb : MeetsAll l b d) : ∃ c, Tr (Pall l d c) a (planL l.length a b) ∧ runW a (planL l.length a b) = b := by
  obtain ⟨h1, h2⟩ := up_phase ha hb l.length (Nat.le_refl _)
  obtain ⟨k1, k2, _⟩ := down_phase ha hb _ h1 h2 l.length (Nat.le_refl _)
  refine ⟨_, k1.tr, ?_⟩
  have e := k1.run
  unfold planL
  rw [← e]
  have rb := hb.2.1
  refine rls_ext' (by rw [k1.n1]; exact rb.2.1.symm) (by rw [k1.n2]; exact rb.2.2.1.symm) (fun k hk => (k2.hi k (by omega) (by rw [k1.n1] at hk; exact hk)).1) (fun k hk => (k2.hi k (by omega) (by rw [k1.n2] at hk; exact hk)).2)
/-- The join meets the draws. -/
theorem join_meets (ha : MeetsAll l a d) (hb : MeetsAll l b d) : MeetsAll l (joinR a b) d :=
  mixed_meets ha hb (join_okP ha.2.1 hb.2.1) (fun _ => joinR a b) (fun _ _ => .inr (.inl rfl)) (fun i _ => as_refl _ i) (fun i _ _ => .inl rfl)
end
end Go.Proofs.Ytoenkcojfogmmaa

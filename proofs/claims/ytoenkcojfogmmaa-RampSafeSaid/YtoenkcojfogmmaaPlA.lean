/- Plain laws of plans: rails between two that meet the draws meet them. No program. -/
import Derived.Test.YtoenkcojfogmmaaRmpE
set_option linter.unusedVariables false
set_option linter.unusedSimpArgs false
namespace Go.Proofs.Ytoenkcojfogmmaa
open Classical

/-- Supply i is in x as in m: on as there, and if on, at the level there. -/
def As (x m : Rls) (i : Nat) : Prop := onAt x i = onAt m i ∧ (onAt m i = true → lvAt x i = lvAt m i)
theorem vlt_of {l : List Sup} {x m : Rls} {i : Nat} (h : lvAt x i = lvAt m i) : vlt l x i = vlt l m i := by
  unfold lvAt at h
  unfold vlt
  split
  · rw [h]
  · rfl
theorem levels_mono {l : List Sup} (hok : AllOk l) {i : Nat} (hi : i < l.length) (b : Nat) (hb : b < l[i].levels.length) : ∀ a, (hab : a ≤ b) → l[i].levels[a]'(by omega) ≤ l[i].levels[b] := by
  obtain ⟨_, q⟩ := hok i hi
  induction b with
  | zero => intro a ha; have : a = 0 := by omega
            subst this; exact Int.le_refl _
  | succ b ih =>
    intro a hab
    by_cases e : a = b + 1
    · subst e; exact Int.le_refl _
    · have h1 := ih (by omega) a (by omega)
      obtain ⟨_, _, _, h2⟩ := q.2 (b + 1) hb
      have h3 := h2 (by omega)
      simp only [Nat.add_sub_cancel] at h3
      omega
theorem vlt_mono {l : List Sup} {x y : Rls} (hx : RlsOk l x) (hy : RlsOk l y) {i : Nat} (hi : i < l.length) (h : lvAt x i ≤ lvAt y i) : vlt l x i ≤ vlt l y i := by
  obtain ⟨h1, n, hn, hn1, hv⟩ := rls_lv hx i hi
  obtain ⟨k1, m, hm, hm1, hw⟩ := rls_lv hy i hi
  rw [lvAt_eq h1, lvAt_eq k1, hn, hm] at h
  rw [hv, hw]
  exact levels_mono (chk_zero hx.1).2 hi m hm1 n (by omega)
section
variable {l : List Sup} {d : List Drw} {a b : Rls}
/-- What the rails that two others share know. -/
theorem meet_on {r : Rls} (hr : MeetsAll l r d) {i : Nat} (hi : i < l.length) (ho : onAt r i = true) : ld l d i ≤ l[i].capacity ∧ (0 ≤ l[i].parent → onAt r l[i].parent.toNat = true ∧ vlt l r i + l[i].dropout ≤ vlt l r l[i].parent.toNat) := (hr.2.2.1 i hi).2 ho hi
theorem meet_used {r : Rls} (hr : MeetsAll l r d) {i : Nat} (hi : i < l.length) (hu : Used l d i) : onAt r i = true := (hr.2.2.1 i hi).1 hu
theorem join_on_at (hb : RlsOk l b) {i : Nat} (hi : i < l.length) : onAt (joinR a b) i = (onAt a i || onAt b i) := joinR_on a b i (by have := hb.2.1; omega)
theorem join_lv_at (hb : RlsOk l b) {i : Nat} (hi : i < l.length) : lvAt (joinR a b) i = jlv a b i := joinR_lv a b i (by have := hb.2.2.1; omega)
theorem join_okP (ha : RlsOk l a) (hb : RlsOk l b) : RlsOk l (joinR a b) := by
  refine ⟨ha.1, by rw [joinR_on_len]; exact hb.2.1, by rw [joinR_lv_len]; exact hb.2.2.1, fun k hk hk' => ?_⟩
  rw [← lvAt_eq hk', join_lv_at hb hk]
  have h1 := ha.2.2.1
  have h2 := hb.2.2.1
  have g1 := ha.2.2.2 k hk (by omega)
  have g2 := hb.2.2.2 k hk (by omega)
  rw [← lvAt_eq] at g1 g2
  unfold jlv
  split
  · split
    · split <;> assumption
    · exact g1
  · exact g2
theorem join_ge_a (hb : RlsOk l b) {i : Nat} (hi : i < l.length) (ho : onAt a i = true) : lvAt a i ≤ lvAt (joinR a b) i := by
  rw [join_lv_at hb hi, jlv, if_pos ho]
  split
  · split <;> omega
  · omega
theorem join_ge_b (hb : RlsOk l b) {i : Nat} (hi : i < l.length) (ho : onAt b i = true) : lvAt b i ≤ lvAt (joinR a b) i := by
  rw [join_lv_at hb hi, jlv]
  simp only [ho, if_true]
  split
  · split <;> omega
  · omega
/-- The level of the join is that of one of the two that is on. -/
theorem join_which (hb : RlsOk l b) {i : Nat} (hi : i < l.length) (ho : onAt (joinR a b) i = true) : (onAt a i = true ∧ lvAt (joinR a b) i = lvAt a i) ∨ (onAt b i = true ∧ lvAt (joinR a b) i = lvAt b i) := by
  rw [join_on_at hb hi] at ho
  rw [join_lv_at hb hi, jlv]
  by_cases h1 : onAt a i = true
  · rw [if_pos h1]
    by_cases h2 : onAt b i = true
    · rw [if_pos h2]
      split
      · exact .inr ⟨h2, rfl⟩
      · exact .inl ⟨h1, rfl⟩
    · rw [if_neg h2]; exact .inl ⟨h1, rfl⟩
  · have h2 : onAt b i = true := by simpa [h1] using ho
    rw [if_neg h1]; exact .inr ⟨h2, rfl⟩
/-- Rails each of whose supplies is as in a, as in the join or as in b, its parent as in the join or as itself, meet the draws. -/
theorem mixed_meets (ha : MeetsAll l a d) (hb : MeetsAll l b d) {x : Rls} (hx : RlsOk l x) (m : Nat → Rls) (hm : ∀ i, i < l.length → m i = a ∨ m i = joinR a b ∨ m i = b) (has : ∀ i, i < l.length → As x (m i) i)
    (hp : ∀ i (hi : i < l.length), 0 ≤ l[i].parent → m l[i].parent.toNat = joinR a b ∨ m l[i].parent.toNat = m i) : MeetsAll l x d := by
  have ra := ha.2.1
  have rb := hb.2.1
  have rj := join_okP ra rb
  -- a supply that is on in a mode: in a or in b, with its level
  have onm : ∀ i, i < l.length → onAt x i = true → (onAt a i = true ∧ (m i = a ∨ m i = joinR a b) ∧ vlt l x i = vlt l a i) ∨ (onAt b i = true ∧ (m i = b ∨ m i = joinR a b) ∧ vlt l x i = vlt l b i) := by
    intro i hi ho
    have h1 := has i hi
    rcases hm i hi with e | e | e
    · rw [e] at h1
      have h2 : onAt a i = true := by rw [← h1.1]; exact ho
      exact .inl ⟨h2, .inl e, vlt_of (h1.2 h2)⟩
    · rw [e] at h1
      have h2 : onAt (joinR a b) i = true := by rw [← h1.1]; exact ho
      rcases join_which rb hi h2 with ⟨q1, q2⟩ | ⟨q1, q2⟩
      · exact .inl ⟨q1, .inr e, vlt_of ((h1.2 h2).trans q2)⟩
      · exact .inr ⟨q1, .inr e, vlt_of ((h1.2 h2).trans q2)⟩
    · rw [e] at h1
      have h2 : onAt b i = true := by rw [← h1.1]; exact ho
      exact .inr ⟨h2, .inl e, vlt_of (h1.2 h2)⟩
  -- the parent in the join or as itself gives no less
  have par : ∀ (r : Rls), (r = a ∨ r = b) → ∀ p, p < l.length → onAt r p = true → (m p = r ∨ m p = joinR a b) → onAt x p = true ∧ vlt l r p ≤ vlt l x p := by
    intro r hr p hpl ho hmp
    have h1 := has p hpl
    rcases hmp with e | e
    · rw [e] at h1
      exact ⟨by rw [h1.1]; exact ho, by rw [vlt_of (h1.2 ho)]; exact Int.le_refl _⟩
    · rw [e] at h1
      have h2 : onAt (joinR a b) p = true := by
        rw [join_on_at rb hpl]
        rcases hr with rfl | rfl <;> simp [ho]
      refine ⟨by rw [h1.1]; exact h2, ?_⟩
      rw [vlt_of (h1.2 h2)]
      rcases hr with rfl | rfl
      · exact vlt_mono ra rj hpl (join_ge_a rb hpl ho)
      · exact vlt_mono rb rj hpl (join_ge_b rb hpl ho)
  have hz := chk_zero ra.1
  refine ⟨ha.1, hx, fun i hi => ⟨fun hu => ?_, fun ho _ => ?_⟩, fun k hk => ?_⟩
  · have u1 := meet_used ha hi hu
    have u2 := meet_used hb hi hu
    rw [(has i hi).1]
    rcases hm i hi with e | e | e
    · rw [e]; exact u1
    · rw [e, join_on_at rb hi, u1]; rfl
    · rw [e]; exact u2
  · rcases onm i hi ho with ⟨q1, q2, q3⟩ | ⟨q1, q2, q3⟩
    · have q := meet_on ha hi q1
      refine ⟨q.1, fun hpp => ?_⟩
      obtain ⟨w1, w2⟩ := q.2 hpp
      have hpl : l[i].parent.toNat < l.length := by
        obtain ⟨_, z⟩ := hz.2 i hi
        have := z.1.2.1
        omega
      obtain ⟨y1, y2⟩ := par a (.inl rfl) _ hpl w1 (by
        rcases hp i hi hpp with e | e
        · exact .inr e
        · rw [e]; rcases q2 with e2 | e2
          · exact .inl e2
          · exact .inr e2)
      exact ⟨y1, by rw [q3]; omega⟩
    · have q := meet_on hb hi q1
      refine ⟨q.1, fun hpp => ?_⟩
      obtain ⟨w1, w2⟩ := q.2 hpp
      have hpl : l[i].parent.toNat < l.length := by
        obtain ⟨_, z⟩ := hz.2 i hi
        have := z.1.2.1
        omega
      obtain ⟨y1, y2⟩ := par b (.inr rfl) _ hpl w1 (by
        rcases hp i hi hpp with e | e
        · exact .inr e
        · rw [e]; rcases q2 with e2 | e2
          · exact .inl e2
          · exact .inr e2)
      exact ⟨y1, by rw [q3]; omega⟩
  · have hd := ha.1.2.2 k hk
    unfold DrwOk at hd
    have d1 := ha.2.2.2 k hk
    have d2 := hb.2.2.2 k hk
    have hsl : d[k].supply.toNat < l.length := by omega
    have hus : Used l d d[k].supply.toNat := by
      rw [used_here hsl]
      exact .inr (.inl ⟨d[k], List.getElem_mem hk, by omega⟩)
    have hox : onAt x d[k].supply.toNat = true := by
      have u1 := meet_used ha hsl hus
      have u2 := meet_used hb hsl hus
      rw [(has _ hsl).1]
      rcases hm _ hsl with e | e | e
      · rw [e]; exact u1
      · rw [e, join_on_at rb hsl, u1]; rfl
      · rw [e]; exact u2
    unfold DrawAt at *
    rcases onm _ hsl hox with ⟨_, _, q3⟩ | ⟨_, _, q3⟩
    · rw [q3]; exact d1
    · rw [q3]; exact d2
end
end Go.Proofs.Ytoenkcojfogmmaa

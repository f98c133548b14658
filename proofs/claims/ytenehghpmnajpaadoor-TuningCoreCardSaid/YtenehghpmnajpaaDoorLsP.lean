/- Plain: the limits that cannot be met together, as the program finds them. No program in sight. -/
import Derived.Test.YtenehghpmnajpaaDoorLsA
set_option linter.unusedVariables false
set_option linter.unusedSimpArgs false
namespace Go.Proofs.YtenehghpmnajpaaDoor
open Go.RowKit
open Classical

/-- Some setting breaks none of the limits of a mask. -/
noncomputable def canL (l : List Clk) (ms : List Lmt) (m : BitVec 64) : Bool := decide (∃ s, SetOk l s ∧ bitsS l ms s &&& m = 0)
def lessM (m : BitVec 64) (i : Nat) : BitVec 64 := m &&& ~~~ (BitVec.twoPow 64 i)
noncomputable def leastGo (l : List Clk) (ms : List Lmt) : Nat → BitVec 64 × List Int
  | 0 => (BitVec.allOnes 64, [])
  | i + 1 => if canL l ms (lessM (leastGo l ms i).1 i) = true then ((leastGo l ms i).1, (leastGo l ms i).2 ++ [(i : Int)]) else (lessM (leastGo l ms i).1 i, (leastGo l ms i).2)
theorem lessM_get (m : BitVec 64) (i j : Nat) (hi : i < 64) : (lessM m i).getLsbD j = (m.getLsbD j && decide (j ≠ i)) := by
  unfold lessM
  rw [BitVec.getLsbD_and, BitVec.getLsbD_not, BitVec.getLsbD_twoPow]
  by_cases h : j < 64
  · by_cases e : j = i
    · subst e; simp [h]
    · have : ¬ i = j := fun q => e q.symm
      simp [h, e, this]
  · have : m.getLsbD j = false := BitVec.getLsbD_of_ge _ _ (by omega)
    rw [this]; simp
theorem and_zero {a b : BitVec 64} : a &&& b = 0 ↔ ∀ j, j < 64 → a.getLsbD j = true → b.getLsbD j = false := by
  constructor
  · intro h j hj ha
    have : (a &&& b).getLsbD j = false := by rw [h]; simp
    rw [BitVec.getLsbD_and, ha, Bool.true_and] at this
    exact this
  · intro h
    apply BitVec.eq_of_getLsbD_eq
    intro j hj
    rw [BitVec.getLsbD_and]
    cases ha : a.getLsbD j with
    | false => simp
    | true => rw [h j hj ha]; simp
theorem canL_mono {l : List Clk} {ms : List Lmt} {m m' : BitVec 64} (h : ∀ j, m'.getLsbD j = true → m.getLsbD j = true) (hc : canL l ms m = true) : canL l ms m' = true := by
  unfold canL at hc ⊢
  rw [decide_eq_true_iff] at hc ⊢
  obtain ⟨s, hs, hb⟩ := hc
  refine ⟨s, hs, and_zero.2 fun j hj ha => ?_⟩
  have := and_zero.1 hb j hj ha
  cases hm : m'.getLsbD j with
  | false => rfl
  | true => rw [h j hm] at this; cases this
structure LInv (l : List Clk) (ms : List Lmt) (i : Nat) (m : BitVec 64) (out : List Int) : Prop where
  hi : ∀ j, i ≤ j → j < 64 → m.getLsbD j = true
  lo : ∀ j, j < i → (m.getLsbD j = true ↔ (j : Int) ∈ out)
  bnd : ∀ k ∈ out, 0 ≤ k ∧ k < i
  asc : out.Pairwise (· < ·)
  no : canL l ms m = false
  each : ∀ k ∈ out, canL l ms (lessM m k.toNat) = true
theorem lInv_go {l : List Clk} {ms : List Lmt} (h0 : canL l ms (BitVec.allOnes 64) = false) : ∀ i, i ≤ 64 → LInv l ms i (leastGo l ms i).1 (leastGo l ms i).2 := by
  intro i
  induction i with
  | zero =>
    intro _
    exact ⟨fun j _ h => by show (BitVec.allOnes 64).getLsbD j = true; rw [BitVec.getLsbD_allOnes]; exact decide_eq_true h, fun j h => by omega, fun k h => by simp [leastGo] at h, by simp [leastGo], h0, fun k h => by simp [leastGo] at h⟩
  | succ i ih =>
    intro hi
    have H := ih (by omega)
    obtain ⟨m, hm⟩ : ∃ m, (leastGo l ms i).1 = m := ⟨_, rfl⟩
    obtain ⟨out, ho⟩ : ∃ out, (leastGo l ms i).2 = out := ⟨_, rfl⟩
    rw [hm, ho] at H
    simp only [leastGo, hm, ho]
    have hg := fun j => lessM_get m i j (by omega)
    cases hc : canL l ms (lessM m i) with
    | true =>
      simp only [if_true]
      refine ⟨fun j h1 h2 => H.hi j (by omega) h2, fun j hj => ?_, fun k hk => ?_, ?_, H.no, fun k hk => ?_⟩
      · rw [List.mem_append, List.mem_singleton]
        by_cases e : j = i
        · subst e; exact ⟨fun _ => .inr rfl, fun _ => H.hi j (Nat.le_refl _) (by omega)⟩
        · rw [H.lo j (by omega)]
          exact ⟨.inl, fun q => q.resolve_right (by omega)⟩
      · rcases List.mem_append.1 hk with hk | hk
        · have := H.bnd k hk; omega
        · have : k = i := by simpa using hk
          omega
      · rw [List.pairwise_append]
        refine ⟨H.asc, by simp, fun x hx y hy => ?_⟩
        have := H.bnd x hx
        have : y = i := by simpa using hy
        omega
      · rcases List.mem_append.1 hk with hk | hk
        · exact H.each k hk
        · have : k = i := by simpa using hk
          subst this
          rw [Int.toNat_natCast]; exact hc
    | false =>
      simp only [Bool.false_eq_true, if_false]
      refine ⟨fun j h1 h2 => ?_, fun j hj => ?_, fun k hk => ?_, H.asc, hc, fun k hk => ?_⟩
      · rw [hg j, H.hi j (by omega) h2]; simp; omega
      · rw [hg j]
        by_cases e : j = i
        · subst e
          simp
          intro q
          have := H.bnd _ q; omega
        · rw [← H.lo j (by omega)]; simp [e]
      · have := H.bnd k hk; omega
      · have hk2 := H.bnd k hk
        refine canL_mono (fun j hj => ?_) (H.each k hk)
        rw [lessM_get _ _ _ (by omega)] at hj ⊢
        rw [hg j] at hj
        simp only [Bool.and_eq_true] at hj ⊢
        exact ⟨hj.1.1, hj.2⟩
/-! What a mask says of limits -/
theorem bits_get (l : List Clk) (ms : List Lmt) (s : List Int) (hb : (allB l ms).length ≤ 64) (j : Nat) : (bitsS l ms s).getLsbD j = (decide (j < (allB l ms).length) && brk l ms s j) := bitAcc_get _ _ hb j
theorem own_iff (R : List Rt) (l : List Clk) (n : Nat) : OwnR R l ↔ ∀ b ∈ ownB n l, brokB b (rtAt R b.clock.toNat) = false := by
  have h := meet_iff R l []
  have e : allB l [] = ownB 0 l := by simp [allB, limsB]
  rw [e] at h
  have h2 : MeetR R l [] ↔ OwnR R l := ⟨fun q => q.1, fun q => ⟨q, fun j hj => by simp at hj⟩⟩
  rw [← h2, ← h]
  constructor
  · intro q b hb
    obtain ⟨i, hi, hh, rfl⟩ := mem_ownB.1 hb
    exact q ⟨((0 + i : Nat) : Int), i, l[i].low, l[i].high, true⟩ (mem_ownB.2 ⟨i, hi, hh, rfl⟩)
  · intro q b hb
    obtain ⟨i, hi, hh, rfl⟩ := mem_ownB.1 hb
    exact q ⟨((n + i : Nat) : Int), i, l[i].low, l[i].high, true⟩ (mem_ownB.2 ⟨i, hi, hh, rfl⟩)
theorem brk_lim {l : List Clk} {ms : List Lmt} {s : List Int} {j : Nat} (hj : j < ms.length) : brk l ms s j = !okIn (rtAt (rts l s) ms[j].clock.toNat) ms[j].low ms[j].high := by
  have h1 : (allB l ms)[j]? = some (limB j ms[j]) := by
    unfold allB
    rw [List.getElem?_append_left (by rw [limsB_len]; exact hj)]
    simp [limsB, List.getElem?_eq_getElem hj]
  unfold brk
  rw [h1]
  simp only [limB]
  cases e : rtAt (rts l s) ms[j].clock.toNat <;> simp [brokB, okIn]
theorem mask_of {l : List Clk} {ms : List Lmt} {s : List Int} {m : BitVec 64} (hb : (allB l ms).length ≤ 64) (ho : OwnR (rts l s) l) (h : ∀ j (hj : j < ms.length), m.getLsbD j = true → okIn (rtAt (rts l s) ms[j].clock.toNat) ms[j].low ms[j].high = true) : bitsS l ms s &&& m = 0 := by
  refine and_zero.2 fun j hj ha => ?_
  rw [bits_get l ms s hb, Bool.and_eq_true, decide_eq_true_iff] at ha
  obtain ⟨h1, h2⟩ := ha
  by_cases hl : j < ms.length
  · rw [brk_lim hl] at h2
    cases hm : m.getLsbD j with
    | false => rfl
    | true => rw [h j hl hm] at h2; cases h2
  · rw [brk_at h1] at h2
    have hm : (allB l ms)[j] ∈ ownB ms.length l := by
      have e : (allB l ms)[j] = (ownB ms.length l)[j - (limsB ms).length]'(by unfold allB at h1; rw [List.length_append] at h1; rw [limsB_len] at h1 ⊢; omega) := by
        unfold allB
        exact List.getElem_append_right (by rw [limsB_len]; omega)
      rw [e]; exact List.getElem_mem _
    rw [(own_iff _ l ms.length).1 ho _ hm] at h2; cases h2
theorem of_mask {l : List Clk} {ms : List Lmt} {s : List Int} {m : BitVec 64} (hb : (allB l ms).length ≤ 64) (hm : ∀ j, ms.length ≤ j → j < 64 → m.getLsbD j = true) (h : bitsS l ms s &&& m = 0) :
    OwnR (rts l s) l ∧ ∀ j (hj : j < ms.length), m.getLsbD j = true → okIn (rtAt (rts l s) ms[j].clock.toNat) ms[j].low ms[j].high = true := by
  have key := and_zero.1 h
  have hle : ms.length ≤ (allB l ms).length := by unfold allB; rw [List.length_append, limsB_len]; omega
  constructor
  · refine (own_iff _ l ms.length).2 fun b hbm => ?_
    obtain ⟨k, hk, rfl⟩ := List.mem_iff_getElem.1 hbm
    have hj : ms.length + k < (allB l ms).length := by unfold allB; rw [List.length_append, limsB_len]; omega
    have e : (allB l ms)[ms.length + k] = (ownB ms.length l)[k] := by
      have h := List.getElem?_append_right (l₁ := limsB ms) (l₂ := ownB ms.length l) (i := ms.length + k) (by rw [limsB_len]; omega)
      rw [limsB_len, Nat.add_sub_cancel_left] at h
      have h1 : (allB l ms)[ms.length + k]? = (ownB ms.length l)[k]? := h
      rw [List.getElem?_eq_getElem hj, List.getElem?_eq_getElem hk] at h1
      exact Option.some.inj h1
    cases hq : brokB (ownB ms.length l)[k] (rtAt (rts l s) (ownB ms.length l)[k].clock.toNat) with
    | false => rfl
    | true =>
      have h1 := key (ms.length + k) (by omega) (by rw [bits_get l ms s hb, decide_eq_true hj, Bool.true_and, brk_at hj, e]; exact hq)
      rw [hm _ (by omega) (by omega)] at h1; cases h1
  · intro j hj hmj
    cases hq : okIn (rtAt (rts l s) ms[j].clock.toNat) ms[j].low ms[j].high with
    | true => rfl
    | false =>
      have h1 := key j (by omega) (by rw [bits_get l ms s hb, decide_eq_true (show j < (allB l ms).length by omega), Bool.true_and, brk_lim hj, hq]; rfl)
      rw [hmj] at h1; cases h1
/-! The limits that are left -/
noncomputable def coreL (ms : List Lmt) (out : List Int) : List Lmt := out.map fun k => ms.getD k.toNat ⟨0, 0, 0⟩
theorem coreL_at {ms : List Lmt} {out : List Int} {x : Lmt} (hb : ∀ k ∈ out, 0 ≤ k ∧ k < (ms.length : Int)) : x ∈ coreL ms out ↔ ∃ j, ∃ hj : j < ms.length, (j : Int) ∈ out ∧ ms[j] = x := by
  unfold coreL
  rw [List.mem_map]
  constructor
  · rintro ⟨k, hk, rfl⟩
    have := hb k hk
    have hj : k.toNat < ms.length := by omega
    exact ⟨k.toNat, hj, by rw [Int.toNat_of_nonneg this.1]; exact hk, by rw [List.getD_eq_getElem?_getD, List.getElem?_eq_getElem hj]; rfl⟩
  · rintro ⟨j, hj, hm, rfl⟩
    exact ⟨j, hm, by rw [Int.toNat_natCast, List.getD_eq_getElem?_getD, List.getElem?_eq_getElem hj]; rfl⟩
structure CoreOk (l : List Clk) (ms : List Lmt) (out : List Int) : Prop where
  bnd : ∀ k ∈ out, 0 ≤ k ∧ k < (ms.length : Int)
  asc : out.Pairwise (· < ·)
  none : ∀ s, SetOk l s → meetS l (coreL ms out) s = false
  each : ∀ i, i < out.length → ∃ s, SetOk l s ∧ meetS l ((coreL ms out).take i ++ (coreL ms out).drop (i + 1)) s = true
theorem core_ok {l : List Clk} {ms : List Lmt} (hb : (allB l ms).length ≤ 64) (hm : ms.length ≤ 64) (hn : ∀ s, SetOk l s → meetS l ms s = false) : CoreOk l ms (leastGo l ms ms.length).2 := by
  have h0 : canL l ms (BitVec.allOnes 64) = false := by
    unfold canL
    rw [decide_eq_false_iff_not]
    rintro ⟨s, hs, hz⟩
    rw [BitVec.and_allOnes] at hz
    have := hn s hs
    rw [meetS_bits l ms s hb, hz] at this
    simp at this
  have H := lInv_go h0 ms.length hm
  obtain ⟨m, hmm⟩ : ∃ m, (leastGo l ms ms.length).1 = m := ⟨_, rfl⟩
  obtain ⟨out, ho⟩ : ∃ out, (leastGo l ms ms.length).2 = out := ⟨_, rfl⟩
  rw [hmm, ho] at H
  rw [ho]
  refine ⟨H.bnd, H.asc, fun s hs => ?_, fun i hi => ?_⟩
  · cases hq : meetS l (coreL ms out) s with
    | false => rfl
    | true =>
      rw [meetS_true] at hq
      have hz : bitsS l ms s &&& m = 0 := mask_of hb hq.1 fun j hj hmj => hq.2 _ ((coreL_at H.bnd).2 ⟨j, hj, (H.lo j hj).1 hmj, rfl⟩)
      have := H.no
      unfold canL at this
      rw [decide_eq_false_iff_not] at this
      exact absurd ⟨s, hs, hz⟩ this
  · have hk := H.each out[i] (List.getElem_mem hi)
    unfold canL at hk
    rw [decide_eq_true_iff] at hk
    obtain ⟨s, hs, hz⟩ := hk
    have hbi := H.bnd out[i] (List.getElem_mem hi)
    have hg := fun j => lessM_get m out[i].toNat j (by omega)
    obtain ⟨q1, q2⟩ := of_mask hb (fun j h1 h2 => by rw [hg j, H.hi j h1 h2]; simp; omega) hz
    refine ⟨s, hs, meetS_true.2 ⟨q1, fun x hx => ?_⟩⟩
    have hx2 : ∃ j, ∃ hj : j < out.length, j ≠ i ∧ ms.getD out[j].toNat ⟨0, 0, 0⟩ = x := by
      unfold coreL at hx
      rcases List.mem_append.1 hx with hx | hx
      · obtain ⟨j, hj, e⟩ := List.mem_iff_getElem.1 hx
        rw [List.length_take, List.length_map] at hj
        rw [List.getElem_take, List.getElem_map] at e
        exact ⟨j, by omega, by omega, e⟩
      · obtain ⟨j, hj, e⟩ := List.mem_iff_getElem.1 hx
        rw [List.length_drop, List.length_map] at hj
        rw [List.getElem_drop, List.getElem_map] at e
        exact ⟨i + 1 + j, by omega, by omega, e⟩
    obtain ⟨j, hj, hne, rfl⟩ := hx2
    have hbj := H.bnd out[j] (List.getElem_mem hj)
    have hj2 : out[j].toNat < ms.length := by omega
    have hdis : out[j] ≠ out[i] := by
      rcases Nat.lt_or_gt_of_ne hne with q | q
      · have := List.pairwise_iff_getElem.1 H.asc j i hj hi q; omega
      · have := List.pairwise_iff_getElem.1 H.asc i j hi hj q; omega
    rw [List.getD_eq_getElem?_getD, List.getElem?_eq_getElem hj2]
    refine q2 out[j].toNat hj2 ?_
    rw [hg, (H.lo _ hj2).2 (by rw [Int.toNat_of_nonneg hbj.1]; exact List.getElem_mem hj)]
    simp; omega
end Go.Proofs.YtenehghpmnajpaaDoor

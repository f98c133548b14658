/- Plain: the two checks of branches say the same. No program in sight. -/
import Derived.Test.YtenehghpmnajpaaDoorEqA
set_option linter.unusedVariables false
set_option linter.unusedSimpArgs false
namespace Go.Proofs.YtenehghpmnajpaaDoor
open Go.RowKit
open Classical

/-- A place in a list that comes ahead of (i, j). -/
def Bf (i j p q : Nat) : Prop := p < i ∨ (p = i ∧ q < j)
def Hit (b : List Brn) (i j k : Nat) : Prop := ∃ p q, Bf i j p q ∧ p < b.length ∧ q < nxL b p ∧ nxV2 b p q = (k : Int)
theorem getD_set_sets (vs : Sets) (k j : Nat) (x : Option (List Int)) (hk : k < vs.length) : (vs.set k x).getD j none = if j = k then x else vs.getD j none := getD_set vs k j x none hk
/-! From a good setting to the reference's check -/
structure RefAt2 (b : List Brn) (σ : Nat → List Int) (i j : Nat) (S : Sets) : Prop where
  len : S.length = b.length
  yes : ∀ k, k < b.length → (k = 0 ∨ Hit b i j k) → S.getD k none = some (σ k)
  no : ∀ k, k < b.length → ¬ (k = 0 ∨ Hit b i j k) → S.getD k none = none
theorem hit_end {b : List Brn} {i k : Nat} : Hit b (i + 1) 0 k ↔ Hit b i (nxL b i) k := by
  constructor
  · rintro ⟨p, q, h, h1, h2, h3⟩
    refine ⟨p, q, ?_, h1, h2, h3⟩
    rcases h with h | ⟨_, h⟩
    · by_cases e : p = i
      · subst e; exact .inr ⟨rfl, h2⟩
      · exact .inl (by omega)
    · omega
  · rintro ⟨p, q, h, h1, h2, h3⟩
    exact ⟨p, q, .inl (by rcases h with h | h <;> omega), h1, h2, h3⟩
theorem ref_of_good {l : List Clk} {ms : List Lmt} {b : List Brn} {σ : Nat → List Int} (hb : 0 < b.length) (G : Good l ms b σ) : ∀ i, i ≤ b.length → ∃ S, runRf l ms b i = some S ∧ RefAt2 b σ i 0 S := by
  intro i
  induction i with
  | zero =>
    intro _
    refine ⟨_, rfl, by simp; omega, fun k hk h => ?_, fun k hk h => ?_⟩
    · rcases h with rfl | ⟨p, q, h, _⟩
      · rw [G.root]; rfl
      · rcases h with h | h <;> omega
    · obtain ⟨k', rfl⟩ : ∃ k', k = k' + 1 := ⟨k - 1, by
        have : k ≠ 0 := fun e => h (.inl e)
        omega⟩
      rw [List.getD_eq_getElem?_getD, List.getElem?_cons_succ, List.getElem?_replicate]; split <;> rfl
  | succ i ih =>
    intro hi
    obtain ⟨S, hS, H⟩ := ih (by omega)
    have hSi : S.getD i none = some (σ i) := by
      refine H.yes i (by omega) ?_
      by_cases e : i = 0
      · exact .inl e
      · obtain ⟨p, hp, q, hq, he⟩ := G.all i (by omega) (by omega)
        obtain ⟨k, e1, e2, _⟩ := G.kid p hp q hq
        have : k = i := by rw [e1] at he; omega
        exact .inr ⟨p, q, .inl (by omega), hp, hq, he⟩
    simp only [runRf]
    rw [hS]
    simp only [Option.bind_some, stepRf, hSi]
    rcases G.loc i (by omega) with ⟨h0, hl⟩ | ⟨h0, hn⟩
    · have z := loc_leaf h0 hl
      rw [if_pos h0, if_pos hl]
      have hh : ∀ k, Hit b (i + 1) 0 k ↔ Hit b i 0 k := fun k => by rw [hit_end, z]
      exact ⟨S, rfl, H.len, fun k hk h => H.yes k hk (h.imp id (hh k).1), fun k hk h => H.no k hk (fun q => h (q.imp id (hh k).2))⟩
    · rw [if_neg h0, if_pos hn]
      have key : ∀ j, j ≤ nxL b i → ∃ T, kidsR b.length i (brnAt b i).clock (σ i) (brnAt b i).next S j = some T ∧ RefAt2 b σ i j T := by
        intro j
        induction j with
        | zero => intro _; exact ⟨S, rfl, H⟩
        | succ j ihj =>
          intro hj
          obtain ⟨T, hT, HT⟩ := ihj (by omega)
          obtain ⟨k, e1, e2, e3, e4⟩ := G.kid i (by omega) j (by omega)
          have ev : (brnAt b i).next.getD j 0 = (k : Int) := e1
          have hno : T.getD k none = none := by
            refine HT.no k e3 ?_
            rintro (h | ⟨p, q, h, h1, h2, h3⟩)
            · omega
            · obtain ⟨a1, a2⟩ := G.inj i (by omega) j (by omega) p h1 q h2 (by rw [e1, h3])
              rcases h with h | h <;> omega
          have hk1 : k < T.length := by rw [HT.len]; exact e3
          refine ⟨T.set k (some (σ k)), ?_, by rw [List.length_set, HT.len], fun k' hk' h => ?_, fun k' hk' h => ?_⟩
          · simp only [kidsR]
            rw [hT]
            simp only [Option.bind_some]
            rw [ev, if_neg (by
              rintro (q | q | q)
              · omega
              · omega
              · rw [Int.toNat_natCast, hno] at q; cases q), Int.toNat_natCast, e4]
          · rw [getD_set_sets _ _ _ _ hk1]
            by_cases e : k' = k
            · subst e; rw [if_pos rfl]
            · rw [if_neg e]
              refine HT.yes k' hk' (h.imp id ?_)
              rintro ⟨p, q, h, h1, h2, h3⟩
              refine ⟨p, q, ?_, h1, h2, h3⟩
              rcases h with h | ⟨rfl, h⟩
              · exact .inl h
              · refine .inr ⟨rfl, ?_⟩
                by_cases eq : q = j
                · subst eq; rw [e1] at h3; exact absurd (by omega) e
                · omega
          · have hne : k' ≠ k := fun e => h (.inr ⟨i, j, .inr ⟨rfl, by omega⟩, by omega, by omega, by rw [e1, e]⟩)
            rw [getD_set_sets _ _ _ _ hk1, if_neg hne]
            refine HT.no k' hk' (fun q => h (q.imp id ?_))
            rintro ⟨p, q, h, h1, h2, h3⟩
            exact ⟨p, q, by rcases h with h | h; exact .inl h; exact .inr ⟨h.1, by omega⟩, h1, h2, h3⟩
      obtain ⟨T, hT, HT⟩ := key _ (Nat.le_refl _)
      exact ⟨T, hT, HT.len, fun k hk h => HT.yes k hk (h.imp id hit_end.1), fun k hk h => HT.no k hk (fun q => h (q.imp id hit_end.2))⟩
/-! From the reference's check to a good setting -/
structure RInv (l : List Clk) (ms : List Lmt) (b : List Brn) (i j : Nat) (S : Sets) : Prop where
  len : S.length = b.length
  s0 : S.getD 0 none = some (startS l)
  frm : ∀ k, 0 < k → k < b.length → (S.getD k none).isSome = true → Hit b i j k
  kid : ∀ p q, Bf i j p q → p < b.length → q < nxL b p → ∃ (k : Nat) (t : List Int), nxV2 b p q = k ∧ p < k ∧ k < b.length ∧ S.getD p none = some t ∧ S.getD k none = some (t.set (brnAt b p).clock.toNat (q : Int))
  inj : ∀ p q p' q', Bf i j p q → Bf i j p' q' → p < b.length → p' < b.length → q < nxL b p → q' < nxL b p' → nxV2 b p q = nxV2 b p' q' → p = p' ∧ q = q'
  loc : ∀ p, p < i → p < b.length → ∃ t, S.getD p none = some t ∧ LocOk l ms b p t
theorem RInv.done {l : List Clk} {ms : List Lmt} {b : List Brn} {i : Nat} {S : Sets} {t : List Int} (h : RInv l ms b i (nxL b i) S) (ht : S.getD i none = some t) (hl : LocOk l ms b i t) : RInv l ms b (i + 1) 0 S := by
  have bf : ∀ p q, Bf (i + 1) 0 p q → q < nxL b p → Bf i (nxL b i) p q := fun p q h hq => by
    rcases h with h | h
    · by_cases e : p = i
      · subst e; exact .inr ⟨rfl, hq⟩
      · exact .inl (by omega)
    · omega
  refine ⟨h.len, h.s0, fun k h0 h1 h2 => hit_end.2 (h.frm k h0 h1 h2), fun p q hb hp hq => h.kid p q (bf p q hb hq) hp hq, fun p q p' q' h1 h2 h3 h4 h5 h6 => h.inj p q p' q' (bf p q h1 h5) (bf p' q' h2 h6) h3 h4 h5 h6, fun p hp hpn => ?_⟩
  by_cases e : p = i
  · subst e; exact ⟨t, ht, hl⟩
  · exact h.loc p (by omega) hpn
theorem rinv_run {l : List Clk} {ms : List Lmt} {b : List Brn} (hb : 0 < b.length) : ∀ i S, i ≤ b.length → runRf l ms b i = some S → RInv l ms b i 0 S := by
  intro i
  induction i with
  | zero =>
    intro S _ h
    injection h with h
    subst h
    refine ⟨by simp; omega, rfl, fun k h0 h1 h2 => ?_, fun p q h => by rcases h with h | h <;> omega, fun p q p' q' h => by rcases h with h | h <;> omega, fun p hp => by omega⟩
    obtain ⟨k', rfl⟩ : ∃ k', k = k' + 1 := ⟨k - 1, by omega⟩
    rw [List.getD_eq_getElem?_getD, List.getElem?_cons_succ, List.getElem?_replicate] at h2
    split at h2 <;> cases h2
  | succ i ih =>
    intro S' hi h
    simp only [runRf] at h
    cases hS : runRf l ms b i with
    | none => rw [hS] at h; cases h
    | some S =>
      rw [hS] at h
      have H := ih S (by omega) hS
      simp only [Option.bind_some, stepRf] at h
      cases ht : S.getD i none with
      | none => rw [ht] at h; cases h
      | some t =>
        rw [ht] at h
        simp only at h
        by_cases hl : 0 ≤ (brnAt b i).limit
        · rw [if_pos hl] at h
          by_cases hlf : LeafOk l ms t (brnAt b i)
          · rw [if_pos hlf] at h
            injection h with h
            subst h
            have z := loc_leaf hl hlf
            exact RInv.done (by rw [z]; exact H) ht (.inl ⟨hl, hlf⟩)
          · rw [if_neg hlf] at h; cases h
        · rw [if_neg hl] at h
          by_cases hnd : NodeOk l t (brnAt b i)
          · rw [if_pos hnd] at h
            have key : ∀ j T, j ≤ nxL b i → kidsR b.length i (brnAt b i).clock t (brnAt b i).next S j = some T → RInv l ms b i j T ∧ T.getD i none = some t := by
              intro j
              induction j with
              | zero =>
                intro T _ e
                injection e with e
                subst e
                exact ⟨H, ht⟩
              | succ j ihj =>
                intro T2 hj e
                simp only [kidsR] at e
                cases e1 : kidsR b.length i (brnAt b i).clock t (brnAt b i).next S j with
                | none => rw [e1] at e; cases e
                | some T =>
                  rw [e1] at e
                  simp only [Option.bind_some] at e
                  obtain ⟨HT, hti⟩ := ihj T (by omega) e1
                  split at e
                  · cases e
                  · rename_i hno
                    injection e with e
                    obtain ⟨k, ek⟩ : ∃ k : Nat, (brnAt b i).next.getD j 0 = k := ⟨((brnAt b i).next.getD j 0).toNat, by omega⟩
                    rw [ek] at e hno
                    rw [Int.toNat_natCast] at e hno
                    have hv : nxV2 b i j = (k : Int) := ek
                    have hk1 : k < T.length := by rw [HT.len]; omega
                    have hfree : T.getD k none = none := by
                      cases q : T.getD k none with
                      | none => rfl
                      | some x => exact absurd (.inr (.inr (by rw [q]; rfl))) hno
                    have hg := fun k' => getD_set_sets T k k' (some (t.set (brnAt b i).clock.toNat (j : Int))) hk1
                    rw [e] at hg
                    have old : ∀ k' x, T.getD k' none = some x → T2.getD k' none = some x := fun k' x hx => by
                      rw [hg, if_neg (fun q => by rw [q, hfree] at hx; cases hx)]; exact hx
                    have cas : ∀ p q, Bf i (j + 1) p q → (p = i ∧ q = j) ∨ Bf i j p q := fun p q h => by
                      rcases h with h | ⟨h, h'⟩
                      · exact .inr (.inl h)
                      · by_cases eq : q = j
                        · exact .inl ⟨h, eq⟩
                        · exact .inr (.inr ⟨h, by omega⟩)
                    refine ⟨⟨by rw [← e, List.length_set, HT.len], old 0 _ HT.s0, fun k' h0 h1 h2 => ?_, fun p q h1 h2 h3 => ?_, fun p q p' q' h1 h2 h3 h4 h5 h6 h7 => ?_, fun p h1 h2 => ?_⟩, old i _ hti⟩
                    · rw [hg] at h2
                      by_cases q : k' = k
                      · subst q; exact ⟨i, j, .inr ⟨rfl, by omega⟩, by omega, by omega, hv⟩
                      · rw [if_neg q] at h2
                        obtain ⟨p, q', a1, a2, a3, a4⟩ := HT.frm k' h0 h1 h2
                        exact ⟨p, q', by rcases a1 with a1 | a1; exact .inl a1; exact .inr ⟨a1.1, by omega⟩, a2, a3, a4⟩
                    · rcases cas p q h1 with ⟨rfl, rfl⟩ | h1
                      · exact ⟨k, t, hv, by omega, by omega, old _ _ hti, by rw [hg, if_pos rfl]⟩
                      · obtain ⟨k', t', a1, a2, a3, a4, a5⟩ := HT.kid p q h1 h2 h3
                        exact ⟨k', t', a1, a2, a3, old _ _ a4, old _ _ a5⟩
                    · have no : ∀ p q, Bf i j p q → p < b.length → q < nxL b p → nxV2 b p q ≠ nxV2 b i j := fun p q h1 h2 h3 he => by
                        obtain ⟨k', t', a1, _, _, _, a5⟩ := HT.kid p q h1 h2 h3
                        have : k' = k := by rw [a1, hv] at he; omega
                        rw [this, hfree] at a5; cases a5
                      rcases cas p q h1 with ⟨rfl, rfl⟩ | h1 <;> rcases cas p' q' h2 with ⟨rfl, rfl⟩ | h2
                      · exact ⟨rfl, rfl⟩
                      · exact absurd h7.symm (no p' q' h2 h4 h6)
                      · exact absurd h7 (no p q h1 h3 h5)
                      · exact HT.inj p q p' q' h1 h2 h3 h4 h5 h6 h7
                    · obtain ⟨t', a1, a2⟩ := HT.loc p h1 h2
                      exact ⟨t', old _ _ a1, a2⟩
            obtain ⟨HT, hti⟩ := key _ S' (Nat.le_refl _) h
            exact HT.done hti (.inr ⟨hl, hnd⟩)
          · rw [if_neg hnd] at h; cases h
theorem good_of_ref {l : List Clk} {ms : List Lmt} {b : List Brn} (hb : 0 < b.length) (h : refChk l ms b = true) : ∃ σ, Good l ms b σ := by
  unfold refChk at h
  obtain ⟨S, hS⟩ := Option.isSome_iff_exists.1 h
  have H := rinv_run hb _ S (Nat.le_refl _) hS
  refine ⟨fun k => (S.getD k none).getD [], by rw [H.s0]; rfl, fun i hi => ?_, fun i hi q hq => ?_, fun i hi q hq i' hi' q' hq' he => H.inj i q i' q' (.inl hi) (.inl hi') hi hi' hq hq' he, fun k h0 h1 => ?_⟩
  · obtain ⟨t, a1, a2⟩ := H.loc i hi hi
    rw [a1]; exact a2
  · obtain ⟨k, t, a1, a2, a3, a4, a5⟩ := H.kid i q (.inl hi) hi hq
    exact ⟨k, a1, a2, a3, by rw [a4, a5]; rfl⟩
  · obtain ⟨t, a1, _⟩ := H.loc k h1 h1
    obtain ⟨p, q, _, a2, a3, a4⟩ := H.frm k h0 h1 (by rw [a1]; rfl)
    exact ⟨p, a2, q, a3, a4⟩
/-! From a good setting to the program's check -/
inductive Desc (b : List Brn) (i : Nat) : Nat → Prop
  | kid (q k : Nat) : i < b.length → q < nxL b i → nxV2 b i q = (k : Int) → Desc b i k
  | far (j q k : Nat) : Desc b i j → j < b.length → q < nxL b j → nxV2 b j q = (k : Int) → Desc b i k
theorem Desc.lt {l : List Clk} {ms : List Lmt} {b : List Brn} {σ : Nat → List Int} (G : Good l ms b σ) {i k : Nat} (h : Desc b i k) : i < k ∧ k < b.length := by
  induction h with
  | kid q k h1 h2 h3 =>
    obtain ⟨k', e, a, b', _⟩ := G.kid i h1 q h2
    have : k' = k := by rw [e] at h3; omega
    omega
  | far j q k hd h1 h2 h3 ih =>
    obtain ⟨k', e, a, b', _⟩ := G.kid j h1 q h2
    have : k' = k := by rw [e] at h3; omega
    omega
theorem Desc.trans {b : List Brn} {i j k : Nat} (h : Desc b i j) (g : Desc b j k) : Desc b i k := by
  induction g with
  | kid q k h1 h2 h3 => exact .far j q k h h1 h2 h3
  | far m q k hd h1 h2 h3 ih => exact .far m q k ih h1 h2 h3
theorem desc_two {l : List Clk} {ms : List Lmt} {b : List Brn} {σ : Nat → List Int} (G : Good l ms b σ) {i i' k : Nat} (h : Desc b i k) : Desc b i' k → i = i' ∨ Desc b i i' ∨ Desc b i' i := by
  induction h with
  | kid q k h1 h2 h3 =>
    intro g
    cases g with
    | kid q' _ g1 g2 g3 => exact .inl (G.inj i h1 q h2 i' g1 q' g2 (by rw [h3, g3])).1
    | far j q' _ gd g1 g2 g3 =>
      have := (G.inj i h1 q h2 j g1 q' g2 (by rw [h3, g3])).1
      subst this
      exact .inr (.inr gd)
  | far j q k hd h1 h2 h3 ih =>
    intro g
    cases g with
    | kid q' _ g1 g2 g3 =>
      have := (G.inj j h1 q h2 i' g1 q' g2 (by rw [h3, g3])).1
      subst this
      exact .inr (.inl hd)
    | far j' q' _ gd g1 g2 g3 =>
      have := (G.inj j h1 q h2 j' g1 q' g2 (by rw [h3, g3])).1
      subst this
      exact ih gd
theorem desc_split {b : List Brn} {i k : Nat} (h : Desc b i k) : ∃ q c : Nat, i < b.length ∧ q < nxL b i ∧ nxV2 b i q = (c : Int) ∧ (k = c ∨ Desc b c k) := by
  induction h with
  | kid q k h1 h2 h3 => exact ⟨q, k, h1, h2, h3, .inl rfl⟩
  | far j q k hd h1 h2 h3 ih =>
    obtain ⟨q', c, a1, a2, a3, a4⟩ := ih
    refine ⟨q', c, a1, a2, a3, .inr ?_⟩
    rcases a4 with rfl | a4
    · exact .kid q k h1 h2 h3
    · exact .far j q k a4 h1 h2 h3
theorem vis_of_good {l : List Clk} {ms : List Lmt} {b : List Brn} {σ : Nat → List Int} (G : Good l ms b σ) : ∀ g i N, i < b.length → b.length ≤ i + g → N.length = b.length → (∀ k, Desc b i k → N.getD k false = false) →
    ∃ N', visP l ms b g i (σ i) N = some N' ∧ N'.length = b.length ∧ ∀ k, N'.getD k false = true ↔ (N.getD k false = true ∨ Desc b i k) := by
  intro g
  induction g with
  | zero => intro i N h1 h2; omega
  | succ g ih =>
    intro i N hi hg hN hfree
    have eb : b[i]? = some (brnAt b i) := by rw [brnAt, List.getD_eq_getElem?_getD, List.getElem?_eq_getElem hi]; rfl
    simp only [visP, eb]
    rcases G.loc i hi with ⟨h0, hl⟩ | ⟨h0, hn⟩
    · have z := loc_leaf h0 hl
      rw [if_pos h0, if_pos hl]
      refine ⟨N, rfl, hN, fun k => ⟨.inl, fun h => h.resolve_right (fun d => ?_)⟩⟩
      obtain ⟨q, c, _, a2, _⟩ := desc_split d
      omega
    · rw [if_neg h0, if_pos hn]
      have key : ∀ m, m ≤ nxL b i → ∃ N1, kidsP (visP l ms b g) b.length i (brnAt b i).clock.toNat (σ i) (brnAt b i).next N m = some N1 ∧ N1.length = b.length ∧
          ∀ k, N1.getD k false = true ↔ (N.getD k false = true ∨ ∃ q c : Nat, q < m ∧ nxV2 b i q = (c : Int) ∧ (k = c ∨ Desc b c k)) := by
        intro m
        induction m with
        | zero => intro _; exact ⟨N, rfl, hN, fun k => ⟨.inl, fun h => h.resolve_right (fun ⟨q, c, h, _⟩ => by omega)⟩⟩
        | succ m ihm =>
          intro hm
          obtain ⟨N1, e1, l1, h1⟩ := ihm (by omega)
          obtain ⟨c, c1, c2, c3, c4⟩ := G.kid i hi m (by omega)
          have ev : (brnAt b i).next.getD m 0 = (c : Int) := c1
          have dc : Desc b i c := .kid m c hi (by omega) c1
          have hc1 : c < N1.length := by rw [l1]; exact c3
          have sib : ∀ q c', q < m → nxV2 b i q = (c' : Nat) → c ≠ c' ∧ ¬ Desc b c' c ∧ ¬ Desc b c c' := fun q c' hq hv => by
            have hne : c ≠ c' := fun e => by
              have := (G.inj i hi m (by omega) i hi q (by omega) (by rw [c1, hv, e])).2
              omega
            obtain ⟨k2, f1, f2, f3, _⟩ := G.kid i hi q (by omega)
            have ek : k2 = c' := by rw [f1] at hv; omega
            subst ek
            refine ⟨hne, fun d => ?_, fun d => ?_⟩
            · cases d with
              | kid q' _ g1 g2 g3 =>
                have := (G.inj i hi m (by omega) _ g1 q' g2 (by rw [c1, g3])).1
                omega
              | far j q' _ gd g1 g2 g3 =>
                have := (G.inj i hi m (by omega) j g1 q' g2 (by rw [c1, g3])).1
                have := gd.lt G
                omega
            · cases d with
              | kid q' _ g1 g2 g3 =>
                have := (G.inj i hi q (by omega) _ g1 q' g2 (by rw [f1, g3])).1
                omega
              | far j q' _ gd g1 g2 g3 =>
                have := (G.inj i hi q (by omega) j g1 q' g2 (by rw [f1, g3])).1
                have := gd.lt G
                omega
          have hcf : N1.getD c false = false := by
            cases e : N1.getD c false with
            | false => rfl
            | true =>
              rcases (h1 c).1 e with q | ⟨q, c', hq, hv, hk⟩
              · rw [hfree c dc] at q; cases q
              · obtain ⟨s1, s2, _⟩ := sib q c' hq hv
                rcases hk with hk | hk
                · exact absurd hk s1
                · exact absurd hk s2
          obtain ⟨N2, e2, l2, h2⟩ := ih c (N1.set c true) c3 (by omega) (by rw [List.length_set, l1]) (fun k hk => by
            rw [getD_false_set hc1, if_neg (by have := hk.lt G; omega)]
            cases e : N1.getD k false with
            | false => rfl
            | true =>
              rcases (h1 k).1 e with q | ⟨q, c', hq, hv, hk'⟩
              · rw [hfree k (dc.trans hk)] at q; cases q
              · obtain ⟨s1, s2, s3⟩ := sib q c' hq hv
                rcases hk' with rfl | hk'
                · exact absurd hk s3
                · rcases desc_two G hk hk' with a | a | a
                  · exact absurd a s1
                  · exact absurd a s3
                  · exact absurd a s2)
          refine ⟨N2, ?_, l2, fun k => ?_⟩
          · simp only [kidsP]
            rw [e1]
            simp only [Option.bind_some]
            rw [ev, if_neg (by
              rintro (q | q | q)
              · omega
              · omega
              · rw [Int.toNat_natCast, hcf] at q; cases q), Int.toNat_natCast, ← c4]
            exact e2
          · rw [h2, getD_false_set hc1]
            constructor
            · rintro (h | h)
              · by_cases e : k = c
                · exact .inr ⟨m, c, by omega, c1, .inl e⟩
                · rw [if_neg e] at h
                  rcases (h1 k).1 h with q | ⟨q, c', hq, hv, hk⟩
                  · exact .inl q
                  · exact .inr ⟨q, c', by omega, hv, hk⟩
              · exact .inr ⟨m, c, by omega, c1, .inr h⟩
            · rintro (h | ⟨q, c', hq, hv, hk⟩)
              · left
                split
                · rfl
                · exact (h1 k).2 (.inl h)
              · by_cases e : q = m
                · subst e
                  have : c' = c := by rw [c1] at hv; omega
                  subst this
                  rcases hk with rfl | hk
                  · left; rw [if_pos rfl]
                  · exact .inr hk
                · left
                  split
                  · rfl
                  · exact (h1 k).2 (.inr ⟨q, c', by omega, hv, hk⟩)
      obtain ⟨N1, e1, l1, h1⟩ := key _ (Nat.le_refl _)
      refine ⟨N1, e1, l1, fun k => ?_⟩
      rw [h1]
      constructor
      · rintro (h | ⟨q, c, hq, hv, hk⟩)
        · exact .inl h
        · have d : Desc b i c := .kid q c hi hq hv
          rcases hk with rfl | hk
          · exact .inr d
          · exact .inr (d.trans hk)
      · rintro (h | h)
        · exact .inl h
        · obtain ⟨q, c, _, a2, a3, a4⟩ := desc_split h
          exact .inr ⟨q, c, a2, a3, a4⟩
theorem desc_all {l : List Clk} {ms : List Lmt} {b : List Brn} {σ : Nat → List Int} (G : Good l ms b σ) : ∀ k, 0 < k → k < b.length → Desc b 0 k := by
  intro k
  induction k using Nat.strongRecOn with
  | ind k ih =>
    intro h0 h1
    obtain ⟨p, hp, q, hq, hv⟩ := G.all k h0 h1
    obtain ⟨k', e, e2, _⟩ := G.kid p hp q hq
    have : k' = k := by rw [e] at hv; omega
    by_cases ep : p = 0
    · subst ep; exact .kid q k hp hq hv
    · exact .far p q k (ih p (by omega) (by omega) hp) hp hq hv
theorem chk_same {l : List Clk} {ms : List Lmt} {b : List Brn} (hb : 0 < b.length) : prgChk l ms b = refChk l ms b := by
  rw [Bool.eq_iff_iff]
  constructor
  · intro h
    obtain ⟨σ, G⟩ := good_of_prg hb h
    obtain ⟨S, hS, _⟩ := ref_of_good hb G b.length (Nat.le_refl _)
    unfold refChk; rw [hS]; rfl
  · intro h
    obtain ⟨σ, G⟩ := good_of_ref hb h
    obtain ⟨N', e1, e2, e3⟩ := vis_of_good G b.length 0 (List.replicate b.length false) hb (by omega) (by simp) (fun k _ => by
      rw [List.getD_eq_getElem?_getD, List.getElem?_replicate]; split <;> rfl)
    unfold prgChk
    rw [← G.root, e1]
    exact all_true_of e2 fun k h0 h1 => (e3 k).2 (.inr (desc_all G k h0 h1))
/-! What is accepted says that nothing meets the limits -/
theorem good_none {l : List Clk} {ms : List Lmt} {b : List Brn} {σ : Nat → List Int} (hc : cchk l = 0) (hm : LsOk l ms) (hb : 0 < b.length) (G : Good l ms b σ) (s : List Int) (hs : SetOk l s) : meetS l ms s = false := by
  have ok : ∀ d i, i < b.length → b.length ≤ i + d → PrtOk l (σ i) → ExtS (σ i) s → meetS l ms s = false := by
    intro d
    induction d with
    | zero => intro i h1 h2; omega
    | succ d ih =>
      intro i hi hd hp he
      rcases G.loc i hi with ⟨h0, hl⟩ | ⟨h0, hn⟩
      · have h1 := hl.2.2
        unfold leafS at h1
        rw [decide_eq_true_iff] at h1
        obtain ⟨y, hy, _, r, hr, hbr⟩ := h1
        have hyo := allB_ok hm y hy
        have := dec_ext hc hp hs he y.clock.toNat (by have := hyo.1; have := hyo.2; omega) r hr
        unfold meetS
        rw [decide_eq_false_iff_not]
        intro q
        have q2 := q y hy
        rw [this, hbr] at q2; cases q2
      · obtain ⟨n1, n2, n3, n4, n5⟩ := hn
        obtain ⟨c, hcc⟩ : ∃ c : Nat, (brnAt b i).clock.toNat = c := ⟨_, rfl⟩
        rw [hcc] at n4 n5
        have hcl : c < l.length := by omega
        have hsc := hs.at hcl
        have hq : (sOf s c).toNat < nxL b i := by unfold nxL; omega
        obtain ⟨k, e1, e2, e3, e4⟩ := G.kid i hi _ hq
        have ex : (((sOf s c).toNat : Nat) : Int) = sOf s c := by omega
        rw [hcc, ex] at e4
        have hlen : c < (σ i).length := by rw [hp.1]; exact hcl
        refine ih k e3 (by omega) (by rw [e4]; exact hp.set hcl hsc.1 hsc.2) (fun j hj => ?_)
        rw [e4, sOf_set hlen] at hj ⊢
        split
        · rename_i ej; subst ej; rfl
        · rename_i ej
          rw [if_neg ej] at hj
          exact he j hj
  refine ok b.length 0 hb (by omega) (by rw [G.root]; exact startS_ok hc) (by rw [G.root]; exact startS_ext hs)
/-- One more branch that is in no list. -/
theorem chk_more {l : List Clk} {ms : List Lmt} {b : List Brn} {x : Brn} (hb : 0 < b.length) (h : prgChk l ms b = true) : prgChk l ms (b ++ [x]) = false := by
  obtain ⟨σ, G⟩ := good_of_prg hb h
  cases e : prgChk l ms (b ++ [x]) with
  | false => rfl
  | true =>
    exfalso
    obtain ⟨τ, G2⟩ := good_of_prg (by simp) e
    obtain ⟨p, hp, q, hq, hv⟩ := G2.all b.length hb (by simp)
    have hk := G2.kid p hp q hq
    obtain ⟨k, e1, e2, e3, _⟩ := hk
    have : k = b.length := by rw [e1] at hv; omega
    have hpb : p < b.length := by omega
    have ea : brnAt (b ++ [x]) p = brnAt b p := by
      unfold brnAt
      rw [List.getD_eq_getElem?_getD, List.getD_eq_getElem?_getD, List.getElem?_append_left hpb]
    have hq2 : q < nxL b p := by unfold nxL at hq ⊢; rw [ea] at hq; exact hq
    obtain ⟨k', f1, _, f3, _⟩ := G.kid p hpb q hq2
    have hv2 : nxV2 (b ++ [x]) p q = nxV2 b p q := by unfold nxV2; rw [ea]
    rw [hv2, f1] at hv
    omega
end Go.Proofs.YtenehghpmnajpaaDoor

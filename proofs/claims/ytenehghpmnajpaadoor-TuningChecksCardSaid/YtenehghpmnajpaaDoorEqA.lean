/- Plain: what is right with branches that the program's check accepts; that these are a refutation. No program in sight. -/
import Derived.Test.YtenehghpmnajpaaDoorKx
set_option linter.unusedVariables false
set_option linter.unusedSimpArgs false
namespace Go.Proofs.YtenehghpmnajpaaDoor
open Go.RowKit
open Classical

abbrev brnAt (b : List Brn) (i : Nat) : Brn := b.getD i ⟨0, 0, []⟩
def nxV2 (b : List Brn) (i q : Nat) : Int := (brnAt b i).next.getD q 0
def nxL (b : List Brn) (i : Nat) : Nat := (brnAt b i).next.length
/-- A branch is right with a setting. -/
def LocOk (l : List Clk) (ms : List Lmt) (b : List Brn) (i : Nat) (t : List Int) : Prop :=
  (0 ≤ (brnAt b i).limit ∧ LeafOk l ms t (brnAt b i)) ∨ (¬ 0 ≤ (brnAt b i).limit ∧ NodeOk l t (brnAt b i))
theorem loc_leaf {l : List Clk} {ms : List Lmt} {b : List Brn} {i : Nat} {t : List Int} (h : 0 ≤ (brnAt b i).limit) (k : LeafOk l ms t (brnAt b i)) : nxL b i = 0 := by
  unfold nxL; rw [k.2.1]; rfl
/-- Each branch has a setting; each but the first is in one list of the others. -/
structure Good (l : List Clk) (ms : List Lmt) (b : List Brn) (σ : Nat → List Int) : Prop where
  root : σ 0 = startS l
  loc : ∀ i, i < b.length → LocOk l ms b i (σ i)
  kid : ∀ i, i < b.length → ∀ q, q < nxL b i → ∃ k : Nat, nxV2 b i q = k ∧ i < k ∧ k < b.length ∧ σ k = (σ i).set (brnAt b i).clock.toNat (q : Int)
  inj : ∀ i, i < b.length → ∀ q, q < nxL b i → ∀ i', i' < b.length → ∀ q', q' < nxL b i' → nxV2 b i q = nxV2 b i' q' → i = i' ∧ q = q'
  all : ∀ k : Nat, 0 < k → k < b.length → ∃ i, i < b.length ∧ ∃ q, q < nxL b i ∧ nxV2 b i q = k
/-- What the program's check visits behind a branch. -/
structure VisOk (l : List Clk) (ms : List Lmt) (b : List Brn) (i : Nat) (s : List Int) (N N' : List Bool) (V : Nat → Option (List Int)) : Prop where
  len : N'.length = N.length
  nam : ∀ k, N'.getD k false = (N.getD k false || (V k).isSome)
  dis : ∀ k, (V k).isSome = true → N.getD k false = false
  low : ∀ k, (V k).isSome = true → i < k ∧ k < b.length
  loc : LocOk l ms b i s
  kid : ∀ q, q < nxL b i → ∃ k : Nat, nxV2 b i q = k ∧ i < k ∧ V k = some (s.set (brnAt b i).clock.toNat (q : Int))
  locs : ∀ j t, V j = some t → LocOk l ms b j t
  kids : ∀ j t, V j = some t → ∀ q, q < nxL b j → ∃ k : Nat, nxV2 b j q = k ∧ j < k ∧ V k = some (t.set (brnAt b j).clock.toNat (q : Int))
  inj : ∀ j j', (j = i ∨ (V j).isSome = true) → (j' = i ∨ (V j').isSome = true) → ∀ q q', q < nxL b j → q' < nxL b j' → nxV2 b j q = nxV2 b j' q' → j = j' ∧ q = q'
  frm : ∀ k : Nat, (V k).isSome = true → ∃ j, (j = i ∨ (V j).isSome = true) ∧ ∃ q, q < nxL b j ∧ nxV2 b j q = k
/-- .. after some of its lists. -/
structure KidOk (l : List Clk) (ms : List Lmt) (b : List Brn) (i : Nat) (s : List Int) (N N' : List Bool) (V : Nat → Option (List Int)) (m : Nat) : Prop where
  len : N'.length = N.length
  nam : ∀ k, N'.getD k false = (N.getD k false || (V k).isSome)
  dis : ∀ k, (V k).isSome = true → N.getD k false = false
  low : ∀ k, (V k).isSome = true → i < k ∧ k < b.length
  kid : ∀ q, q < m → ∃ k : Nat, nxV2 b i q = k ∧ i < k ∧ V k = some (s.set (brnAt b i).clock.toNat (q : Int))
  locs : ∀ j t, V j = some t → LocOk l ms b j t
  kids : ∀ j t, V j = some t → ∀ q, q < nxL b j → ∃ k : Nat, nxV2 b j q = k ∧ j < k ∧ V k = some (t.set (brnAt b j).clock.toNat (q : Int))
  inj : ∀ j j', (V j).isSome = true → (V j').isSome = true → ∀ q q', q < nxL b j → q' < nxL b j' → nxV2 b j q = nxV2 b j' q' → j = j' ∧ q = q'
  far : ∀ j, (V j).isSome = true → ∀ q p, q < nxL b j → p < m → nxV2 b j q ≠ nxV2 b i p
  hd : ∀ p p', p < m → p' < m → nxV2 b i p = nxV2 b i p' → p = p'
  frm : ∀ k : Nat, (V k).isSome = true → (∃ q, q < m ∧ nxV2 b i q = k) ∨ ∃ j, (V j).isSome = true ∧ ∃ q, q < nxL b j ∧ nxV2 b j q = k
theorem getD_false_set {N : List Bool} {c k : Nat} (hc : c < N.length) : (N.set c true).getD k false = if k = c then true else N.getD k false := getD_set N c k true false hc
theorem kid_step {l : List Clk} {ms : List Lmt} {b : List Brn} {i m c : Nat} {s : List Int} {N N1 N2 : List Bool} {V W : Nat → Option (List Int)} (h : KidOk l ms b i s N N1 V m) (hN : N.length = b.length) (hv : nxV2 b i m = (c : Int)) (hic : i < c) (hcn : c < b.length) (hfree : N1.getD c false = false)
    (g : VisOk l ms b c (s.set (brnAt b i).clock.toNat (m : Int)) (N1.set c true) N2 W) :
    KidOk l ms b i s N N2 (fun k => if k = c then some (s.set (brnAt b i).clock.toNat (m : Int)) else match V k with | some x => some x | none => W k) (m + 1) := by
  have hc1 : c < N1.length := by rw [h.len, hN]; exact hcn
  have Vc : V c = none := by
    cases e : V c with
    | none => rfl
    | some x => have := h.nam c; rw [hfree, e] at this; simp at this
  have WN : ∀ k, (W k).isSome = true → k ≠ c ∧ V k = none := fun k hk => by
    have h1 := g.dis k hk
    rw [getD_false_set hc1] at h1
    by_cases e : k = c
    · rw [if_pos e] at h1; cases h1
    · rw [if_neg e] at h1
      refine ⟨e, ?_⟩
      cases e2 : V k with
      | none => rfl
      | some x => have := h.nam k; rw [h1, e2] at this; simp at this
  obtain ⟨U, hU⟩ : ∃ U : Nat → Option (List Int), U = fun k => if k = c then some (s.set (brnAt b i).clock.toNat (m : Int)) else match V k with | some x => some x | none => W k := ⟨_, rfl⟩
  rw [← hU]
  have Uc : U c = some (s.set (brnAt b i).clock.toNat (m : Int)) := by rw [hU]; simp
  have UV : ∀ k x, V k = some x → U k = some x := fun k x e => by
    have : k ≠ c := fun q => by rw [q, Vc] at e; cases e
    rw [hU]; simp only [if_neg this, e]
  have UW : ∀ k x, W k = some x → U k = some x := fun k x e => by
    obtain ⟨n1, n2⟩ := WN k (by rw [e]; rfl)
    rw [hU]; simp only [if_neg n1, n2]; exact e
  have UC : ∀ k x, U k = some x → (k = c ∧ x = s.set (brnAt b i).clock.toNat (m : Int)) ∨ V k = some x ∨ W k = some x := fun k x e => by
    rw [hU] at e
    simp only at e
    by_cases q : k = c
    · rw [if_pos q] at e
      exact .inl ⟨q, (Option.some.inj e).symm⟩
    · rw [if_neg q] at e
      cases e2 : V k with
      | none => rw [e2] at e; exact .inr (.inr e)
      | some y => rw [e2] at e; exact .inr (.inl e)
  have US : ∀ k, (U k).isSome = true → k = c ∨ (V k).isSome = true ∨ (W k).isSome = true := fun k hk => by
    obtain ⟨x, hx⟩ := Option.isSome_iff_exists.1 hk
    rcases UC k x hx with q | q | q
    · exact .inl q.1
    · exact .inr (.inl (by rw [q]; rfl))
    · exact .inr (.inr (by rw [q]; rfl))
  have UVs : ∀ k, (V k).isSome = true → (U k).isSome = true := fun k hk => by
    obtain ⟨x, hx⟩ := Option.isSome_iff_exists.1 hk
    rw [UV k x hx]; rfl
  have UWs : ∀ k, (W k).isSome = true → (U k).isSome = true := fun k hk => by
    obtain ⟨x, hx⟩ := Option.isSome_iff_exists.1 hk
    rw [UW k x hx]; rfl
  -- values of lists of branches behind c are behind c
  have valW : ∀ j, (j = c ∨ (W j).isSome = true) → ∀ q, q < nxL b j → ∃ k : Nat, nxV2 b j q = k ∧ (W k).isSome = true := fun j hj q hq => by
    rcases hj with rfl | hj
    · obtain ⟨k, e, _, e2⟩ := g.kid q hq
      exact ⟨k, e, by rw [e2]; rfl⟩
    · obtain ⟨x, hx⟩ := Option.isSome_iff_exists.1 hj
      obtain ⟨k, e, _, e2⟩ := g.kids j x hx q hq
      exact ⟨k, e, by rw [e2]; rfl⟩
  have valV : ∀ j, (V j).isSome = true → ∀ q, q < nxL b j → ∃ k : Nat, nxV2 b j q = k ∧ (V k).isSome = true := fun j hj q hq => by
    obtain ⟨x, hx⟩ := Option.isSome_iff_exists.1 hj
    obtain ⟨k, e, _, e2⟩ := h.kids j x hx q hq
    exact ⟨k, e, by rw [e2]; rfl⟩
  have noVW : ∀ k, (V k).isSome = true → (W k).isSome = true → False := fun k h1 h2 => by
    rw [(WN k h2).2] at h1; cases h1
  refine ⟨?_, ?_, ?_, ?_, ?_, ?_, ?_, ?_, ?_, ?_, ?_⟩
  · rw [g.len, List.length_set, h.len]
  · intro k
    rw [g.nam, getD_false_set hc1, h.nam]
    by_cases q : k = c
    · subst q; rw [if_pos rfl, Uc]; simp
    · rw [if_neg q, Bool.or_assoc]
      congr 1
      rw [hU]
      simp only [if_neg q]
      cases V k with
      | none => simp
      | some x => simp
  · intro k hk
    rcases US k hk with q | q | q
    · subst q
      have := h.nam k
      rw [hfree, Vc] at this
      simpa using this.symm
    · exact h.dis k q
    · have h1 := g.dis k q
      rw [getD_false_set hc1, if_neg (WN k q).1, h.nam] at h1
      simp only [Bool.or_eq_false_iff] at h1
      exact h1.1
  · intro k hk
    rcases US k hk with q | q | q
    · subst q; exact ⟨hic, hcn⟩
    · exact h.low k q
    · have := g.low k q
      omega
  · intro q hq
    by_cases e : q = m
    · subst e; exact ⟨c, hv, hic, Uc⟩
    · obtain ⟨k, e1, e2, e3⟩ := h.kid q (by omega)
      exact ⟨k, e1, e2, UV k _ e3⟩
  · intro j t hj
    rcases UC j t hj with ⟨rfl, rfl⟩ | q | q
    · exact g.loc
    · exact h.locs j t q
    · exact g.locs j t q
  · intro j t hj q hq
    rcases UC j t hj with ⟨rfl, rfl⟩ | e | e
    · obtain ⟨k, e1, e2, e3⟩ := g.kid q hq
      exact ⟨k, e1, e2, UW k _ e3⟩
    · obtain ⟨k, e1, e2, e3⟩ := h.kids j t e q hq
      exact ⟨k, e1, e2, UV k _ e3⟩
    · obtain ⟨k, e1, e2, e3⟩ := g.kids j t e q hq
      exact ⟨k, e1, e2, UW k _ e3⟩
  · intro j j' hj hj' q q' hq hq' he
    have cl : ∀ j, (U j).isSome = true → (V j).isSome = true ∨ (j = c ∨ (W j).isSome = true) := fun j hj => by
      rcases US j hj with e | e | e
      · exact .inr (.inl e)
      · exact .inl e
      · exact .inr (.inr e)
    rcases cl j hj with a1 | a1 <;> rcases cl j' hj' with a2 | a2
    · exact h.inj j j' a1 a2 q q' hq hq' he
    · obtain ⟨k, e1, e2⟩ := valV j a1 q hq
      obtain ⟨k', e3, e4⟩ := valW j' a2 q' hq'
      have : k = k' := by rw [e1, e3] at he; omega
      subst this
      exact (noVW k e2 e4).elim
    · obtain ⟨k, e1, e2⟩ := valW j a1 q hq
      obtain ⟨k', e3, e4⟩ := valV j' a2 q' hq'
      have : k = k' := by rw [e1, e3] at he; omega
      subst this
      exact (noVW k e4 e2).elim
    · exact g.inj j j' a1 a2 q q' hq hq' he
  · intro j hj q p hq hp he
    rcases US j hj with e | e | e
    · obtain ⟨k, e1, e2⟩ := valW j (.inl e) q hq
      by_cases ep : p = m
      · subst ep
        rw [hv, e1] at he
        have : k = c := by omega
        exact (WN k e2).1 this
      · obtain ⟨k', e3, _, e4⟩ := h.kid p (by omega)
        have : k = k' := by rw [e1, e3] at he; omega
        subst this
        exact noVW k (by rw [e4]; rfl) e2
    · by_cases ep : p = m
      · subst ep
        obtain ⟨k, e1, e2⟩ := valV j e q hq
        rw [hv, e1] at he
        have : k = c := by omega
        rw [this, Vc] at e2; cases e2
      · exact h.far j e q p hq (by omega) he
    · obtain ⟨k, e1, e2⟩ := valW j (.inr e) q hq
      by_cases ep : p = m
      · subst ep
        rw [hv, e1] at he
        have : k = c := by omega
        exact (WN k e2).1 this
      · obtain ⟨k', e3, _, e4⟩ := h.kid p (by omega)
        have : k = k' := by rw [e1, e3] at he; omega
        subst this
        exact noVW k (by rw [e4]; rfl) e2
  · intro p p' hp hp' he
    by_cases e1 : p = m
    · by_cases e2 : p' = m
      · omega
      · subst e1
        obtain ⟨k', e3, _, e4⟩ := h.kid p' (by omega)
        rw [hv, e3] at he
        have : k' = c := by omega
        rw [this, Vc] at e4; cases e4
    · by_cases e2 : p' = m
      · subst e2
        obtain ⟨k', e3, _, e4⟩ := h.kid p (by omega)
        rw [hv, e3] at he
        have : k' = c := by omega
        rw [this, Vc] at e4; cases e4
      · exact h.hd p p' (by omega) (by omega) he
  · intro k hk
    rcases US k hk with q | q | q
    · subst q; exact .inl ⟨m, by omega, hv⟩
    · rcases h.frm k q with ⟨q', h1, h2⟩ | ⟨j, h1, q', h2, h3⟩
      · exact .inl ⟨q', by omega, h2⟩
      · exact .inr ⟨j, UVs j h1, q', h2, h3⟩
    · obtain ⟨j, h1, q', h2, h3⟩ := g.frm k q
      rcases h1 with rfl | h1
      · exact .inr ⟨j, by rw [Uc]; rfl, q', h2, h3⟩
      · exact .inr ⟨j, UWs j h1, q', h2, h3⟩
theorem vis_ok {l : List Clk} {ms : List Lmt} {b : List Brn} : ∀ g i s N N', N.length = b.length → i < b.length → visP l ms b g i s N = some N' → ∃ V, VisOk l ms b i s N N' V := by
  intro g
  induction g with
  | zero => intro i s N N' _ _ h; cases h
  | succ g ih =>
    intro i s N N' hN hi h
    have eb : b[i]? = some (brnAt b i) := by rw [brnAt, List.getD_eq_getElem?_getD, List.getElem?_eq_getElem hi]; rfl
    simp only [visP, eb] at h
    by_cases hl : 0 ≤ (brnAt b i).limit
    · rw [if_pos hl] at h
      by_cases hlf : LeafOk l ms s (brnAt b i)
      · rw [if_pos hlf] at h
        injection h with h
        subst h
        have z := loc_leaf hl hlf
        refine ⟨fun _ => none, rfl, fun k => by simp, fun k hk => (by cases hk), fun k hk => (by cases hk), .inl ⟨hl, hlf⟩, fun q hq => by omega, fun j t hj => (by cases hj), fun j t hj => (by cases hj), fun j j' hj hj' q q' hq => ?_, fun k hk => (by cases hk)⟩
        rcases hj with rfl | hj
        · omega
        · cases hj
      · rw [if_neg hlf] at h; cases h
    · rw [if_neg hl] at h
      by_cases hnd : NodeOk l s (brnAt b i)
      · rw [if_pos hnd] at h
        have key : ∀ m N1, m ≤ nxL b i → kidsP (visP l ms b g) b.length i (brnAt b i).clock.toNat s (brnAt b i).next N m = some N1 → ∃ V, KidOk l ms b i s N N1 V m := by
          intro m
          induction m with
          | zero =>
            intro N1 _ e
            injection e with e
            subst e
            exact ⟨fun _ => none, rfl, fun k => by simp, fun k hk => (by cases hk), fun k hk => (by cases hk), fun q hq => by omega, fun j t hj => (by cases hj), fun j t hj => (by cases hj), fun j j' hj => (by cases hj), fun j hj => (by cases hj), fun p p' hp => by omega, fun k hk => (by cases hk)⟩
          | succ m ihm =>
            intro N2 hm e
            simp only [kidsP] at e
            cases e1 : kidsP (visP l ms b g) b.length i (brnAt b i).clock.toNat s (brnAt b i).next N m with
            | none => rw [e1] at e; cases e
            | some N1 =>
              rw [e1] at e
              simp only [Option.bind_some] at e
              obtain ⟨V, hV⟩ := ihm N1 (by omega) e1
              split at e
              · cases e
              · rename_i hno
                have hc : nxV2 b i m = (brnAt b i).next.getD m 0 := rfl
                obtain ⟨c, ec⟩ : ∃ c : Nat, (brnAt b i).next.getD m 0 = c := ⟨((brnAt b i).next.getD m 0).toNat, by omega⟩
                rw [ec] at e hno
                rw [Int.toNat_natCast] at e hno
                have hfree : N1.getD c false = false := by
                  cases q : N1.getD c false with
                  | false => rfl
                  | true => exact absurd (.inr (.inr q)) hno
                obtain ⟨W, hW⟩ := ih c _ (N1.set c true) N2 (by rw [List.length_set, hV.len, hN]) (by omega) e
                exact ⟨_, kid_step hV hN (by rw [hc, ec]) (by omega) (by omega) hfree hW⟩
        obtain ⟨V, hV⟩ := key _ N' (Nat.le_refl _) h
        refine ⟨V, hV.len, hV.nam, hV.dis, hV.low, .inr ⟨hl, hnd⟩, hV.kid, hV.locs, hV.kids, ?_, ?_⟩
        · intro j j' hj hj' q q' hq hq' he
          rcases hj with rfl | hj <;> rcases hj' with rfl | hj'
          · exact ⟨rfl, hV.hd q q' hq hq' he⟩
          · exact absurd he.symm (hV.far j' hj' q' q hq' hq)
          · exact absurd he (hV.far j hj q q' hq hq')
          · exact hV.inj j j' hj hj' q q' hq hq' he
        · intro k hk
          rcases hV.frm k hk with ⟨q, h1, h2⟩ | ⟨j, h1, q, h2, h3⟩
          · exact ⟨i, .inl rfl, q, h1, h2⟩
          · exact ⟨j, .inr h1, q, h2, h3⟩
      · rw [if_neg hnd] at h; cases h
theorem good_of_prg {l : List Clk} {ms : List Lmt} {b : List Brn} (hb : 0 < b.length) (h : prgChk l ms b = true) : ∃ σ, Good l ms b σ := by
  unfold prgChk at h
  cases hv : visP l ms b b.length 0 (startS l) (List.replicate b.length false) with
  | none => rw [hv] at h; cases h
  | some N =>
    rw [hv] at h
    obtain ⟨V, H⟩ := vis_ok _ _ _ _ _ (by simp) hb hv
    have z : ∀ k, (List.replicate b.length false).getD k false = false := fun k => by
      rw [List.getD_eq_getElem?_getD, List.getElem?_replicate]; split <;> rfl
    have al : ∀ k, 0 < k → k < b.length → (V k).isSome = true := fun k h0 h1 => by
      have hl : N.length = b.length := by rw [H.len]; simp
      have hm : N.getD k false = true := by
        rw [List.all_eq_true] at h
        have := h (N[k]'(by omega)) (by
          rw [List.mem_iff_getElem]
          exact ⟨k - 1, by rw [List.length_drop]; omega, by rw [List.getElem_drop]; congr 1; omega⟩)
        rw [List.getD_eq_getElem?_getD, List.getElem?_eq_getElem (by omega)]
        simpa using this
      have := H.nam k
      rw [hm, z] at this
      simpa using this.symm
    have dm : ∀ k, k < b.length → k = 0 ∨ (V k).isSome = true := fun k hk => by
      by_cases e : k = 0
      · exact .inl e
      · exact .inr (al k (by omega) hk)
    refine ⟨fun k => if k = 0 then startS l else (V k).getD [], by simp, fun i hi => ?_, fun i hi q hq => ?_, fun i hi q hq i' hi' q' hq' he => H.inj i i' (dm i hi) (dm i' hi') q q' hq hq' he, fun k h0 h1 => ?_⟩
    · by_cases e : i = 0
      · subst e; rw [if_pos rfl]; exact H.loc
      · rw [if_neg e]
        obtain ⟨t, ht⟩ := Option.isSome_iff_exists.1 (al i (by omega) hi)
        rw [ht]; exact H.locs i t ht
    · by_cases e : i = 0
      · subst e
        obtain ⟨k, e1, e2, e3⟩ := H.kid q hq
        refine ⟨k, e1, e2, (H.low k (by rw [e3]; rfl)).2, ?_⟩
        rw [if_neg (by omega), if_pos rfl, e3]; rfl
      · obtain ⟨t, ht⟩ := Option.isSome_iff_exists.1 (al i (by omega) hi)
        obtain ⟨k, e1, e2, e3⟩ := H.kids i t ht q hq
        refine ⟨k, e1, e2, (H.low k (by rw [e3]; rfl)).2, ?_⟩
        rw [if_neg (by omega), if_neg e, e3, ht]; rfl
    · obtain ⟨j, hj, q, h2, h3⟩ := H.frm k (al k h0 h1)
      refine ⟨j, ?_, q, h2, h3⟩
      rcases hj with rfl | hj
      · exact hb
      · exact (H.low j hj).2
end Go.Proofs.YtenehghpmnajpaaDoor

/- Lemmas and contracts for the proof of RetuneAnswers (several texts in one, printed by wip/tools/pack.py): Kk. -/
import Derived.Test.YtenehghpmnajpaaGreatDoorRa8pd
import Derived.Maps.OwnSet
import Derived.ArgAppend
set_option maxRecDepth 100000
set_option maxHeartbeats 16000000

/-! Plain: a search in width over nodes that have a code; what its distances are. No program in sight. -/
set_option linter.unusedVariables false
set_option linter.unusedSectionVars false
set_option linter.unusedSimpArgs false
namespace Go.Proofs.YtenehghpmnajpaaGreatDoor
def look {α β : Type} [DecidableEq α] (V : List (α × β)) (k : α) : Option β := (V.find? (fun p => decide (p.1 = k))).map (·.2)
theorem look_nil {α β : Type} [DecidableEq α] (k : α) : look ([] : List (α × β)) k = none := rfl
theorem look_cons {α β : Type} [DecidableEq α] (q : α × β) (V : List (α × β)) (k : α) : look (q :: V) k = if q.1 = k then some q.2 else look V k := by
  unfold look
  by_cases h : q.1 = k <;> simp [h]
theorem look_snoc {α β : Type} [DecidableEq α] (V : List (α × β)) (k j : α) (x : β) : look (V ++ [(k, x)]) j = if (look V j).isSome then look V j else if k = j then some x else none := by
  induction V with
  | nil => simp [look_cons, look_nil]
  | cons q V ih =>
    rw [List.cons_append, look_cons, look_cons, ih]
    by_cases h : q.1 = j <;> simp [h]
theorem look_some {α β : Type} [DecidableEq α] {V : List (α × β)} {k : α} {x : β} (h : look V k = some x) : (k, x) ∈ V := by
  induction V with
  | nil => cases h
  | cons q V ih =>
    rw [look_cons] at h
    by_cases e : q.1 = k
    · rw [if_pos e] at h; cases h; subst e; exact List.mem_cons_self
    · rw [if_neg e] at h; exact List.mem_cons_of_mem _ (ih h)
theorem look_none {α β : Type} [DecidableEq α] {V : List (α × β)} {k : α} : look V k = none ↔ k ∉ V.map (·.1) := by
  induction V with
  | nil => simp [look_nil]
  | cons q V ih =>
    rw [look_cons]
    by_cases e : q.1 = k
    · simp [e]
    · rw [if_neg e, ih]; simp; intro _ h; exact e h.symm
theorem look_mem {α β : Type} [DecidableEq α] {V : List (α × β)} (hn : (V.map (·.1)).Nodup) {k : α} {x : β} (h : (k, x) ∈ V) : look V k = some x := by
  induction V with
  | nil => cases h
  | cons q V ih =>
    rw [List.map_cons, List.nodup_cons] at hn
    rw [look_cons]
    rcases List.mem_cons.1 h with e | h
    · subst e; simp
    · have : q.1 ≠ k := fun e => hn.1 (e ▸ List.mem_map_of_mem (f := (·.1)) h)
      rw [if_neg this]; exact ih hn.2 h
theorem look_map {α γ β : Type} [DecidableEq α] [DecidableEq γ] (f : α → γ) (V : List (α × β)) (k : α) (hf : ∀ q ∈ V, f q.1 = f k → q.1 = k) : look (V.map fun q => (f q.1, q.2)) (f k) = look V k := by
  induction V with
  | nil => rfl
  | cons q V ih =>
    rw [List.map_cons, look_cons, look_cons, ih (fun q' h => hf q' (List.mem_cons_of_mem _ h))]
    by_cases e : q.1 = k
    · simp [e]
    · have : f q.1 ≠ f k := fun h => e (hf q List.mem_cons_self h)
      simp [e, this]
theorem nodup_le {n : Nat} : ∀ {l : List Nat}, l.Nodup → (∀ x ∈ l, x < n) → l.length ≤ n := by
  induction n with
  | zero =>
    intro l _ h
    cases l with
    | nil => simp
    | cons x l => have := h x List.mem_cons_self; omega
  | succ n ih =>
    intro l hn h
    have h2 : (l.erase n).length ≤ n := ih (hn.erase n) (fun x hx => by
      have h1 := h x (List.mem_of_mem_erase hx)
      have : x ≠ n := fun e => by subst e; exact (List.Nodup.not_mem_erase hn) hx
      omega)
    have := List.length_erase (a := n) (l := l)
    split at this <;> omega
theorem nodup_int_le {n : Nat} {l : List Int} (hn : l.Nodup) (h : ∀ x ∈ l, 0 ≤ x ∧ x < (n : Int)) : l.length ≤ n := by
  have h1 : (l.map Int.toNat).Nodup := by
    rw [List.nodup_iff_pairwise_ne, List.pairwise_map]
    exact hn.imp_of_mem fun {a b} ha hb hab e => hab (by have := h a ha; have := h b hb; omega)
  have := nodup_le (n := n) h1 (fun x hx => by
    obtain ⟨y, hy, rfl⟩ := List.mem_map.1 hx
    have := h y hy
    omega)
  simpa using this
section
variable {α : Type} [DecidableEq α] (nb : α → List (Int × Int × α))
def addB (d : Int) (V : List (α × Int)) (t : Int × Int × α) : List (α × Int) := if (look V t.2.2).isSome then V else V ++ [(t.2.2, d + 1)]
def stepB (V : List (α × Int)) (p : Nat) : List (α × Int) := match V[p]? with
  | none => V
  | some q => (nb q.1).foldl (addB q.2) V
def afterB (src : α) : Nat → List (α × Int)
  | 0 => [(src, 0)]
  | p + 1 => stepB nb (afterB src p) p
theorem foldB (d : Int) (ts : List (Int × Int × α)) : ∀ V : List (α × Int), ∃ ext, ts.foldl (addB d) V = V ++ ext ∧ (∀ q ∈ ext, q.2 = d + 1 ∧ ∃ t ∈ ts, t.2.2 = q.1) ∧ (∀ t ∈ ts, (look (ts.foldl (addB d) V) t.2.2).isSome) ∧ ((V.map (·.1)).Nodup → ((ts.foldl (addB d) V).map (·.1)).Nodup) := by
  induction ts with
  | nil => intro V; exact ⟨[], by simp, by simp, by simp, fun h => h⟩
  | cons t ts ih =>
    intro V
    obtain ⟨ext, e1, e2, e3, e4⟩ := ih (addB d V t)
    have hsome : ∀ (W ext : List (α × Int)) k, (look W k).isSome → (look (W ++ ext) k).isSome := by
      intro W ext k h
      cases hh : look (W ++ ext) k with
      | some _ => rfl
      | none =>
        rw [look_none] at hh
        cases hw : look W k with
        | none => rw [hw] at h; cases h
        | some x => exact absurd (List.mem_map_of_mem (f := (·.1)) (List.mem_append_left ext (look_some hw))) hh
    have ht : (look (addB d V t) t.2.2).isSome := by
      unfold addB
      by_cases h : (look V t.2.2).isSome
      · rw [if_pos h]; exact h
      · rw [if_neg h, look_snoc, if_neg h]; simp
    rw [List.foldl_cons]
    by_cases h : (look V t.2.2).isSome
    · have ea : addB d V t = V := by unfold addB; rw [if_pos h]
      rw [ea] at e1 e3 e4 ht ⊢
      refine ⟨ext, e1, fun q hq => ⟨(e2 q hq).1, ?_⟩, ?_, e4⟩
      · obtain ⟨t', h1, h2⟩ := (e2 q hq).2; exact ⟨t', List.mem_cons_of_mem _ h1, h2⟩
      · intro t' ht'
        rcases List.mem_cons.1 ht' with e | h'
        · subst e; rw [e1]; exact hsome _ _ _ ht
        · exact e3 t' h'
    · have ea : addB d V t = V ++ [(t.2.2, d + 1)] := by unfold addB; rw [if_neg h]
      rw [ea] at e1 e3 e4 ht ⊢
      refine ⟨(t.2.2, d + 1) :: ext, by rw [e1]; simp, ?_, ?_, fun hn => e4 ?_⟩
      · intro q hq
        rcases List.mem_cons.1 hq with e | hq
        · subst e; exact ⟨rfl, t, List.mem_cons_self, rfl⟩
        · obtain ⟨t', h1, h2⟩ := (e2 q hq).2; exact ⟨(e2 q hq).1, t', List.mem_cons_of_mem _ h1, h2⟩
      · intro t' ht'
        rcases List.mem_cons.1 ht' with e | h'
        · subst e; rw [e1]; exact hsome _ _ _ ht
        · exact e3 t' h'
      · rw [List.map_append, List.nodup_append]
        refine ⟨hn, by simp, ?_⟩
        intro a ha b hb e
        subst e
        have hb' : a = t.2.2 := by simpa using hb
        subst hb'
        have : look V t.2.2 = none := by cases hh : look V t.2.2 with
          | none => rfl
          | some _ => rw [hh] at h; exact absurd rfl h
        exact (look_none.1 this) ha
structure BInv (src : α) (p : Nat) (V : List (α × Int)) : Prop where
  nodup : (V.map (·.1)).Nodup
  first : V[0]? = some (src, 0)
  nonneg : ∀ q ∈ V, 0 ≤ q.2 ∧ (q.2 = 0 → q.1 = src)
  sorted : ∀ (i j : Nat) (a b : α × Int), i ≤ j → V[i]? = some a → V[j]? = some b → a.2 ≤ b.2
  bound : ∀ (a b : α × Int), V[p]? = some a → b ∈ V → b.2 ≤ a.2 + 1
  done : ∀ (i : Nat), i < p → ∀ a, V[i]? = some a → ∀ t ∈ nb a.1, ∃ e, (t.2.2, e) ∈ V ∧ e ≤ a.2 + 1
  par : ∀ b ∈ V, b = (src, 0) ∨ ∃ a ∈ V, b.2 = a.2 + 1 ∧ ∃ t ∈ nb a.1, t.2.2 = b.1
theorem BInv.start (src : α) : BInv nb src 0 [(src, 0)] where
  nodup := by simp
  first := rfl
  nonneg := by intro q hq; have : q = (src, 0) := by simpa using hq
               subst this; exact ⟨Int.le_refl _, fun _ => rfl⟩
  sorted := by
    intro i j a b hij ha hb
    cases i with
    | succ i => simp at ha
    | zero => cases j with
      | succ j => simp at hb
      | zero => simp at ha hb; subst ha; subst hb; exact Int.le_refl _
  bound := by
    intro a b ha hb
    simp at ha hb; subst ha; subst hb; simp
  done := by intro i hi; omega
  par := by intro b hb; left; simpa using hb
theorem BInv.step {src : α} {p : Nat} {V : List (α × Int)} (h : BInv nb src p V) : BInv nb src (p + 1) (stepB nb V p) ∧ ∃ ext, stepB nb V p = V ++ ext := by
  unfold stepB
  cases hp : V[p]? with
  | none =>
    have hl : V.length ≤ p := by simpa using hp
    refine ⟨⟨h.nodup, h.first, h.nonneg, h.sorted, ?_, ?_, h.par⟩, [], by simp⟩
    · intro a b ha; have : V[p + 1]? = none := by simp; omega
      rw [this] at ha; cases ha
    · intro i hi a ha
      have : i < V.length := (List.getElem?_eq_some_iff.1 ha).1
      exact h.done i (by omega) a ha
  | some q =>
    obtain ⟨ext, e1, e2, e3, e4⟩ := foldB (α := α) q.2 (nb q.1) V
    simp only
    refine ⟨?_, ext, e1⟩
    have hpl : p < V.length := (List.getElem?_eq_some_iff.1 hp).1
    have hl := h.nonneg q (List.mem_of_getElem? hp)
    have hold : ∀ (i : Nat) (a : α × Int), i < V.length → (V ++ ext)[i]? = some a → V[i]? = some a := fun i a hi ha => by rwa [List.getElem?_append_left hi] at ha
    have hcase : ∀ (i : Nat) (a : α × Int), (V ++ ext)[i]? = some a → (i < V.length ∧ V[i]? = some a) ∨ (V.length ≤ i ∧ a ∈ ext) := fun i a ha => by
      by_cases hi : i < V.length
      · exact .inl ⟨hi, hold i a hi ha⟩
      · rw [List.getElem?_append_right (by omega)] at ha; exact .inr ⟨by omega, List.mem_of_getElem? ha⟩
    have hs : ∀ (i j : Nat) (a b : α × Int), i ≤ j → (V ++ ext)[i]? = some a → (V ++ ext)[j]? = some b → a.2 ≤ b.2 := by
      intro i j a b hij ha hb
      rcases hcase i a ha with ⟨hi, ha'⟩ | ⟨hi, ha'⟩
      · rcases hcase j b hb with ⟨hj, hb'⟩ | ⟨hj, hb'⟩
        · exact h.sorted i j a b hij ha' hb'
        · rw [(e2 b hb').1]; exact h.bound q a hp (List.mem_of_getElem? ha')
      · rcases hcase j b hb with ⟨hj, hb'⟩ | ⟨hj, hb'⟩
        · omega
        · rw [(e2 b hb').1, (e2 a ha').1]; exact Int.le_refl _
    have hn := e4 h.nodup
    rw [e1] at hn e3 ⊢
    refine ⟨hn, ?_, ?_, hs, ?_, ?_, ?_⟩
    · rw [List.getElem?_append_left (by have := (List.getElem?_eq_some_iff.1 h.first).1; omega)]; exact h.first
    · intro x hx
      rcases List.mem_append.1 hx with hx | hx
      · exact h.nonneg x hx
      · have := (e2 x hx).1; exact ⟨by omega, fun e => by omega⟩
    · intro a b ha hb
      have hqa : q.2 ≤ a.2 := hs p (p + 1) q a (by omega) (by rw [List.getElem?_append_left hpl]; exact hp) ha
      rcases List.mem_append.1 hb with hb | hb
      · have := h.bound q b hp hb; omega
      · have := (e2 b hb).1; omega
    · intro i hi a ha t ht
      by_cases e : i = p
      · subst e
        have : a = q := by have := hold i a hpl ha; rw [hp] at this; cases this; rfl
        subst this
        have hsm := e3 t ht
        cases hk : look (V ++ ext) t.2.2 with
        | none => rw [hk] at hsm; cases hsm
        | some x =>
          refine ⟨x, look_some hk, ?_⟩
          rcases List.mem_append.1 (look_some hk) with hx | hx
          · exact h.bound a _ hp hx
          · have := (e2 _ hx).1; simp at this; omega
      · have hil : i < V.length := by omega
        obtain ⟨x, hx, hle⟩ := h.done i (by omega) a (hold i a hil ha) t ht
        exact ⟨x, List.mem_append_left _ hx, hle⟩
    · intro b hb
      rcases List.mem_append.1 hb with hb | hb
      · rcases h.par b hb with e | ⟨a, ha, q1, q2⟩
        · exact .inl e
        · exact .inr ⟨a, List.mem_append_left _ ha, q1, q2⟩
      · obtain ⟨q1, t, q2, q3⟩ := e2 b hb
        exact .inr ⟨q, List.mem_append_left _ (List.mem_of_getElem? hp), q1, t, q2, q3⟩
theorem BInv.after (src : α) : ∀ p, BInv nb src p (afterB nb src p)
  | 0 => BInv.start nb src
  | p + 1 => ((BInv.after src p).step nb).1
structure IsDist (src : α) (D : α → Option Int) : Prop where
  zero : D src = some 0
  only : ∀ n, D n = some 0 → n = src
  nonneg : ∀ n d, D n = some d → 0 ≤ d
  par : ∀ n d, D n = some d → 0 < d → ∃ m t, D m = some (d - 1) ∧ t ∈ nb m ∧ t.2.2 = n
  step : ∀ m d t, D m = some d → t ∈ nb m → ∃ e, D t.2.2 = some e ∧ e ≤ d + 1
theorem BInv.dist {src : α} {p : Nat} {V : List (α × Int)} (h : BInv nb src p V) (hp : V.length ≤ p) : IsDist nb src (look V) where
  zero := look_mem h.nodup (List.mem_of_getElem? h.first)
  only := fun n hn => (h.nonneg _ (look_some hn)).2 rfl
  nonneg := fun n d hn => (h.nonneg _ (look_some hn)).1
  par := by
    intro n d hn hd
    rcases h.par _ (look_some hn) with e | ⟨a, ha, q1, t, q2, q3⟩
    · injection e with e1 e2; omega
    · exact ⟨a.1, t, by rw [look_mem h.nodup (k := a.1) (x := a.2) ha]; congr 1; simp at q1; omega, q2, q3⟩
  step := by
    intro m d t hm ht
    obtain ⟨i, hi⟩ := List.getElem?_of_mem (look_some hm)
    have hil : i < V.length := (List.getElem?_eq_some_iff.1 hi).1
    obtain ⟨e, he, hle⟩ := h.done i (by omega) _ hi t ht
    exact ⟨e, look_mem h.nodup he, hle⟩
theorem IsDist.le {src : α} {D D' : α → Option Int} (h : IsDist nb src D) (h' : IsDist nb src D') : ∀ (k : Nat) n, D n = some (k : Int) → ∃ d', D' n = some d' ∧ d' ≤ k := by
  intro k
  induction k with
  | zero => intro n hn; have := h.only n hn; subst this; exact ⟨0, h'.zero, by simp⟩
  | succ k ih =>
    intro n hn
    obtain ⟨m, t, h1, h2, h3⟩ := h.par n _ hn (by omega)
    obtain ⟨d', h4, h5⟩ := ih m (by rw [h1]; congr 1; omega)
    obtain ⟨e, h6, h7⟩ := h'.step m d' t h4 h2
    rw [h3] at h6
    exact ⟨e, h6, by omega⟩
theorem IsDist.unique {src : α} {D D' : α → Option Int} (h : IsDist nb src D) (h' : IsDist nb src D') : D = D' := by
  funext n
  cases hd : D n with
  | none =>
    cases hd' : D' n with
    | none => rfl
    | some d =>
      have := h'.nonneg n d hd'
      obtain ⟨e, he, _⟩ := h'.le nb h d.toNat n (by rw [hd']; congr 1; omega)
      rw [hd] at he; cases he
  | some d =>
    have h0 := h.nonneg n d hd
    obtain ⟨e, he, hle⟩ := h.le nb h' d.toNat n (by rw [hd]; congr 1; omega)
    have h1 := h'.nonneg n e he
    obtain ⟨e2, he2, hle2⟩ := h'.le nb h e.toNat n (by rw [he]; congr 1; omega)
    rw [hd] at he2; cases he2
    rw [he]; congr 1; omega
def planB (D : α → Int) : Nat → α → List (Int × Int)
  | 0, _ => []
  | f + 1, x => if 0 < D x then match (nb x).find? (fun t => decide (D t.2.2 = D x - 1)) with
    | some t => (t.1, t.2.1) :: planB D f t.2.2
    | none => [] else []
def endB (D : α → Int) : Nat → α → α
  | 0, x => x
  | f + 1, x => if 0 < D x then match (nb x).find? (fun t => decide (D t.2.2 = D x - 1)) with
    | some t => endB D f t.2.2
    | none => x else x
end
end Go.Proofs.YtenehghpmnajpaaGreatDoor
/-! Plain: settings, their numbers, their neighbours; plans without limits. No program in sight. -/
set_option linter.unusedVariables false
set_option linter.unusedSectionVars false
set_option linter.unusedSimpArgs false
namespace Go.Proofs.YtenehghpmnajpaaGreatDoor
open Classical
def kOf (l : List Clk) (i : Nat) : Int := match l[i]? with | some c => (c.choices.length : Int) | none => 0
def sOf (s : List Int) (i : Nat) : Int := s.getD i 0
theorem kOf_at {l : List Clk} {i : Nat} (h : i < l.length) : kOf l i = (l[i].choices.length : Int) := by simp [kOf, List.getElem?_eq_getElem h]
theorem sOf_at {s : List Int} {i : Nat} (h : i < s.length) : sOf s i = s[i] := by simp [sOf, List.getD_eq_getElem?_getD, List.getElem?_eq_getElem h]
theorem sOf_set {s : List Int} {i j : Nat} {x : Int} (h : i < s.length) : sOf (s.set i x) j = if j = i then x else sOf s j := getD_set s i j x 0 h
theorem setOk_of {l : List Clk} {s : List Int} (hl : s.length = l.length) (h : ∀ i, i < l.length → 0 ≤ sOf s i ∧ sOf s i < kOf l i) : SetOk l s :=
  ⟨hl, fun i h1 h2 => by have := h i h1; rw [sOf_at h2, kOf_at h1] at this; exact this⟩
theorem SetOk.at {l : List Clk} {s : List Int} (h : SetOk l s) {i : Nat} (hi : i < l.length) : 0 ≤ sOf s i ∧ sOf s i < kOf l i := by
  rw [sOf_at (by rw [h.1]; exact hi), kOf_at hi]; exact h.2 i hi (by rw [h.1]; exact hi)
theorem SetOk.set {l : List Clk} {s : List Int} (h : SetOk l s) {i : Nat} {x : Int} (hi : i < l.length) (h0 : 0 ≤ x) (h1 : x < kOf l i) : SetOk l (s.set i x) :=
  setOk_of (by rw [List.length_set]; exact h.1) fun j hj => by
    rw [sOf_set (by rw [h.1]; exact hi)]
    split
    · rename_i e; subst e; exact ⟨h0, h1⟩
    · exact h.at hj
theorem ext_s {s t : List Int} (hl : s.length = t.length) (h : ∀ i, i < s.length → sOf s i = sOf t i) : s = t :=
  List.ext_getElem hl fun i h1 h2 => by have := h i h1; rwa [sOf_at h1, sOf_at h2] at this
theorem set_set_s {s : List Int} {i : Nat} {x : Int} (hi : i < s.length) : (s.set i x).set i (sOf s i) = s := by
  rw [List.set_set, sOf_at hi]; simp
/-! Numbers -/
def numU (K S : Nat → Int) : Nat → Int
  | 0 => 0
  | j + 1 => numU K S j * K j + S j
def num (l : List Clk) (s : List Int) : Int := numU (kOf l) (sOf s) l.length
theorem numU_bound {l : List Clk} {s : List Int} (h : SetOk l s) : ∀ j, j ≤ l.length → 0 ≤ numU (kOf l) (sOf s) j ∧ numU (kOf l) (sOf s) j < (prodC (l.take j) : Nat) := by
  intro j
  induction j with
  | zero => intro _; simp [numU, prodC]
  | succ j ih =>
    intro hj
    obtain ⟨h0, h1⟩ := ih (by omega)
    have h2 := h.at (i := j) (by omega)
    have hk := kOf_at (l := l) (i := j) (by omega)
    simp only [numU]
    rw [prodC_take l j (by omega), Int.natCast_mul, ← hk]
    have hk0 : 0 ≤ kOf l j := by omega
    have h3 : numU (kOf l) (sOf s) j * kOf l j ≤ ((prodC (l.take j) : Nat) - 1) * kOf l j := Int.mul_le_mul_of_nonneg_right (by omega) hk0
    have h4 : 0 ≤ numU (kOf l) (sOf s) j * kOf l j := Int.mul_nonneg h0 hk0
    rw [Int.sub_mul] at h3
    omega
theorem num_bound {l : List Clk} {s : List Int} (h : SetOk l s) : 0 ≤ num l s ∧ num l s < (prodC l : Nat) := by
  have := numU_bound h l.length (Nat.le_refl _)
  rwa [List.take_length] at this
theorem numU_divmod {l : List Clk} {s : List Int} (h : SetOk l s) {j : Nat} (hj : j < l.length) : numU (kOf l) (sOf s) (j + 1) / kOf l j = numU (kOf l) (sOf s) j ∧ numU (kOf l) (sOf s) (j + 1) % kOf l j = sOf s j := by
  have h2 := h.at hj
  simp only [numU]
  constructor
  · rw [Int.add_comm, Int.add_mul_ediv_right _ _ (by omega), Int.ediv_eq_zero_of_lt h2.1 h2.2, Int.zero_add]
  · rw [Int.add_comm, Int.add_mul_emod_self_right, Int.emod_eq_of_lt h2.1 h2.2]
theorem num_inj {l : List Clk} {s t : List Int} (h : SetOk l s) (k : SetOk l t) (e : num l s = num l t) : s = t := by
  have : ∀ j, j ≤ l.length → numU (kOf l) (sOf s) j = numU (kOf l) (sOf t) j → ∀ i, i < j → sOf s i = sOf t i := by
    intro j
    induction j with
    | zero => intro _ _ i hi; omega
    | succ j ih =>
      intro hj e i hi
      have d1 := numU_divmod h (j := j) (by omega)
      have d2 := numU_divmod k (j := j) (by omega)
      rw [e] at d1
      by_cases hij : i = j
      · subst hij; rw [← d1.2, ← d2.2]
      · exact ih (by omega) (by rw [← d1.1, ← d2.1]) i (by omega)
  exact ext_s (by rw [h.1, k.1]) fun i hi => this l.length (Nat.le_refl _) e i (by rw [← h.1]; exact hi)
/-! Neighbours -/
abbrev Nbr := Int × Int × List Int
def nbOne (cal : List Int → Bool) (s : List Int) (i j : Nat) : Option Nbr := if (j : Int) ≠ sOf s i ∧ cal (s.set i j) = true then some (i, j, s.set i j) else none
def nbRow (cal : List Int → Bool) (s : List Int) (i k : Nat) : List Nbr := (List.range k).filterMap (nbOne cal s i)
def nbTo (l : List Clk) (cal : List Int → Bool) (s : List Int) (i : Nat) : List Nbr := (List.range i).flatMap fun i => nbRow cal s i (kOf l i).toNat
def nbS (l : List Clk) (cal : List Int → Bool) (s : List Int) : List Nbr := nbTo l cal s l.length
theorem nbRow_succ (cal : List Int → Bool) (s : List Int) (i k : Nat) : nbRow cal s i (k + 1) = nbRow cal s i k ++ (nbOne cal s i k).toList := by
  unfold nbRow
  rw [List.range_succ, List.filterMap_append]
  cases h : nbOne cal s i k <;> simp [h]
theorem nbTo_succ (l : List Clk) (cal : List Int → Bool) (s : List Int) (i : Nat) : nbTo l cal s (i + 1) = nbTo l cal s i ++ nbRow cal s i (kOf l i).toNat := by
  unfold nbTo
  rw [List.range_succ, List.flatMap_append]; simp
theorem mem_nbS {l : List Clk} {cal : List Int → Bool} {s : List Int} {t : Nbr} : t ∈ nbS l cal s ↔ ∃ i j : Nat, i < l.length ∧ (j : Int) < kOf l i ∧ (j : Int) ≠ sOf s i ∧ cal (s.set i j) = true ∧ t = ((i : Int), (j : Int), s.set i j) := by
  unfold nbS nbTo nbRow nbOne
  simp only [List.mem_flatMap, List.mem_filterMap, List.mem_range]
  constructor
  · rintro ⟨i, hi, j, hj, h⟩
    split at h
    · rename_i hc; cases h; exact ⟨i, j, hi, by omega, hc.1, hc.2, rfl⟩
    · cases h
  · rintro ⟨i, j, hi, hj, h1, h2, rfl⟩
    exact ⟨i, hi, j, by omega, by rw [if_pos ⟨h1, h2⟩]⟩
theorem nb_ok {l : List Clk} {cal : List Int → Bool} {s : List Int} {t : Nbr} (h : t ∈ nbS l cal s) (hs : SetOk l s) : SetOk l t.2.2 ∧ cal t.2.2 = true := by
  obtain ⟨i, j, hi, hj, h1, h2, rfl⟩ := mem_nbS.1 h
  exact ⟨hs.set hi (by omega) hj, h2⟩
theorem nb_sym {l : List Clk} {cal : List Int → Bool} {s : List Int} {t : Nbr} (h : t ∈ nbS l cal s) (hs : SetOk l s) (hc : cal s = true) : ∃ u ∈ nbS l cal t.2.2, u.2.2 = s := by
  obtain ⟨i, j, hi, hj, h1, h2, rfl⟩ := mem_nbS.1 h
  have hi' : i < s.length := by rw [hs.1]; exact hi
  obtain ⟨h3, h4⟩ := hs.at hi
  have e : (s.set i (j : Int)).set i (sOf s i) = s := set_set_s hi'
  refine ⟨((i : Int), sOf s i, s), mem_nbS.2 ⟨i, (sOf s i).toNat, hi, by omega, ?_, ?_, ?_⟩, rfl⟩
  · simp only; rw [sOf_set hi', if_pos rfl]; omega
  · simp only; rw [show (((sOf s i).toNat : Nat) : Int) = sOf s i by omega, e]; exact hc
  · simp only; rw [show (((sOf s i).toNat : Nat) : Int) = sOf s i by omega, e]
theorem after_ok {l : List Clk} {cal : List Int → Bool} {src : List Int} (hs : SetOk l src) (hc : cal src = true) : ∀ p, ∀ q ∈ afterB (nbS l cal) src p, SetOk l q.1 ∧ cal q.1 = true := by
  intro p
  induction p with
  | zero => intro q hq; have : q = (src, 0) := by simpa [afterB] using hq
            subst this; exact ⟨hs, hc⟩
  | succ p ih =>
    intro q hq
    simp only [afterB, stepB] at hq
    split at hq
    · exact ih q hq
    · rename_i x hx
      obtain ⟨ext, e1, e2, _⟩ := foldB x.2 (nbS l cal x.1) (afterB (nbS l cal) src p)
      rw [e1] at hq
      rcases List.mem_append.1 hq with hq | hq
      · exact ih q hq
      · obtain ⟨_, t, ht, e⟩ := e2 q hq
        rw [← e]
        exact nb_ok ht (ih x (List.mem_of_getElem? hx)).1
theorem after_len {l : List Clk} {cal : List Int → Bool} {src : List Int} (hs : SetOk l src) (hc : cal src = true) (p : Nat) : (afterB (nbS l cal) src p).length ≤ prodC l := by
  have hn := (BInv.after (nbS l cal) src p).nodup
  have ho := after_ok hs hc p
  have h1 : ((afterB (nbS l cal) src p).map (fun q => num l q.1)).Nodup := by
    rw [List.nodup_iff_pairwise_ne, List.pairwise_map] at hn ⊢
    exact hn.imp_of_mem fun {a b} ha hb hab e => hab (num_inj (ho a ha).1 (ho b hb).1 e)
  have := nodup_int_le h1 (n := prodC l) (fun x hx => by
    obtain ⟨q, hq, rfl⟩ := List.mem_map.1 hx
    exact num_bound (ho q hq).1)
  simpa using this
structure DistOk (l : List Clk) (cal : List Int → Bool) (src : List Int) (D : List Int → Option Int) : Prop where
  dist : IsDist (nbS l cal) src D
  ok : ∀ x d, D x = some d → SetOk l x ∧ cal x = true
theorem DistOk.near {l : List Clk} {cal : List Int → Bool} {src : List Int} {D : List Int → Option Int} (h : DistOk l cal src D) {x : List Int} {d : Int} (hx : D x = some d) (hd : 0 < d) : ∃ t ∈ nbS l cal x, D t.2.2 = some (d - 1) := by
  obtain ⟨m, t, h1, h2, h3⟩ := h.dist.par x d hx hd
  obtain ⟨u, hu, e⟩ := nb_sym h2 (h.ok m _ h1).1 (h.ok m _ h1).2
  rw [h3] at hu
  exact ⟨u, hu, by rw [e]; exact h1⟩
theorem after_dist {l : List Clk} {cal : List Int → Bool} {src : List Int} (hs : SetOk l src) (hc : cal src = true) (p : Nat) (hp : (afterB (nbS l cal) src p).length ≤ p) : DistOk l cal src (look (afterB (nbS l cal) src p)) :=
  ⟨(BInv.after _ src p).dist _ hp, fun x d hx => after_ok hs hc p _ (look_some hx)⟩
def dz (D : List Int → Option Int) (x : List Int) : Int := (D x).getD 0
theorem DistOk.found {l : List Clk} {cal : List Int → Bool} {src : List Int} {D : List Int → Option Int} (h : DistOk l cal src D) {x : List Int} {d : Int} (hx : D x = some d) (hd : 0 < d) :
    ∃ t, (nbS l cal x).find? (fun t => decide (dz D t.2.2 = dz D x - 1)) = some t ∧ t ∈ nbS l cal x ∧ D t.2.2 = some (d - 1) := by
  obtain ⟨u, hu, e⟩ := h.near hx hd
  cases hf : (nbS l cal x).find? (fun t => decide (dz D t.2.2 = dz D x - 1)) with
  | none =>
    have := List.find?_eq_none.1 hf u hu
    simp [dz, e, hx] at this
  | some t =>
    have h1 := List.mem_of_find?_eq_some hf
    have h2 := List.find?_some hf
    refine ⟨t, rfl, h1, ?_⟩
    obtain ⟨f, hf', _⟩ := h.dist.step x d t hx h1
    simp [dz, hf', hx] at h2
    rw [hf', h2]
noncomputable def planS (l : List Clk) (cal : List Int → Bool) (D : List Int → Option Int) (a : List Int) : List (Int × Int) := planB (nbS l cal) (dz D) (dz D a).toNat a
theorem planB_len {l : List Clk} {cal : List Int → Bool} {src : List Int} {D : List Int → Option Int} (h : DistOk l cal src D) : ∀ (f : Nat) (x : List Int), D x = some (f : Int) → (planB (nbS l cal) (dz D) f x).length = f ∧ endB (nbS l cal) (dz D) f x = src := by
  intro f
  induction f with
  | zero => intro x hx; exact ⟨rfl, h.dist.only x hx⟩
  | succ f ih =>
    intro x hx
    have hz : dz D x = ((f + 1 : Nat) : Int) := by simp [dz, hx]
    obtain ⟨t, h1, h2, h3⟩ := h.found hx (by omega)
    obtain ⟨i1, i2⟩ := ih t.2.2 (by rw [h3]; congr 1; omega)
    simp only [planB, endB]
    rw [if_pos (by omega), if_pos (by omega), h1]
    exact ⟨by simp [i1], i2⟩
theorem planS_len {l : List Clk} {cal : List Int → Bool} {src : List Int} {D : List Int → Option Int} (h : DistOk l cal src D) {x : List Int} {d : Int} (hx : D x = some d) : ((planS l cal D x).length : Int) = d := by
  have h0 := h.dist.nonneg x d hx
  have hz : dz D x = d := by simp [dz, hx]
  have := planB_len h d.toNat x (by rw [hx]; congr 1; omega)
  rw [planS, hz, this.1]; omega
end Go.Proofs.YtenehghpmnajpaaGreatDoor
/-! Plain: without limits the plan changes each choice that differs once, in the order of the clocks. No program in sight. -/
set_option linter.unusedVariables false
set_option linter.unusedSectionVars false
set_option linter.unusedSimpArgs false
namespace Go.Proofs.YtenehghpmnajpaaGreatDoor
open Classical
section
variable {l : List Clk} {b : List Int} {D : List Int → Option Int}
end
end Go.Proofs.YtenehghpmnajpaaGreatDoor
/-! Maps by whole numbers that a call makes: which entries they have; looking up and storing. -/
set_option linter.unusedVariables false
set_option linter.unusedSimpArgs false
namespace Go.Proofs.YtenehghpmnajpaaGreatDoor
open Go.RowKit Go.Maps
theorem wide_wf {k : Int} (h : Wide k) : (Lit.int .i64 k).wf = true := by
  unfold Wide at h
  exact WalkArith.wf_i64 (by omega)
theorem keyed_int : Keyed Tryz.prog 3 := int_keyed Tryz.underlying3
theorem zero_int (w : World) : (zeroValue 3).run Tryz.prog w = .ok (.int .i64 0) w := by kernel_rfl
theorem zero_bool (w : World) : (zeroValue 4).run Tryz.prog w = .ok (.bool false) w := by kernel_rfl
def MapV {β : Type} (w : World) (E : TypeId) (f : β → Lit) (B : Nat) (V : List (Int × β)) : Prop :=
  ∃ D : DataW Unit, w.ownsMap Tryz.prog 3 (plainElem Tryz.prog E) B V.length D ∧ (∀ k, Maps.has D (.int .i64 k) = (look V k).isSome) ∧ ∀ k x z, look V k = some x → D.atKey (.int .i64 k) z = .lit (f x)
abbrev MapB (w : World) (B : Nat) (V : List (Int × Bool)) : Prop := MapV w 4 Lit.bool B V
abbrev MapI (w : World) (B : Nat) (V : List (Int × Int)) : Prop := MapV w 3 (Lit.int .i64) B V
section
variable {β : Type} {w : World} {E : TypeId} {f : β → Lit} {B : Nat} {V : List (Int × β)}
theorem MapV.has (h : MapV w E f B V) : Has w B := by
  obtain ⟨D, h, _⟩ := h
  exact h.lt
theorem MapV.kept {w' : World} {row : Option Nat} (h : MapV w E f B V) (hg : w.grownBy w' row) (hne : some B ≠ row) : MapV w' E f B V := by
  obtain ⟨D, h1, h2⟩ := h
  exact ⟨D, h1.kept hg hne, h2⟩
theorem MapV.block {w' : World} (h : MapV w E f B V) (hb : w'.heap[B]? = w.heap[B]?) : MapV w' E f B V := by
  obtain ⟨D, ⟨es, clock, h0, h1⟩, h2⟩ := h
  exact ⟨D, ⟨es, clock, hb.trans h0, h1⟩, h2⟩
theorem MapV.gr {w' : World} (h : MapV w E f B V) (hg : Gr w w') : MapV w' E f B V := h.block (hg.below.block B h.has)
theorem MapV.made (w : World) (E : TypeId) (f : β → Lit) : MapV (w.alloc (.map #[] 0)) E f w.heap.size ([] : List (Int × β)) :=
  ⟨.map [], World.ownsMap_made _ _ _ _, fun k => rfl, fun k x z h => by cases h⟩
theorem MapV.stored {w' : World} {D : DataW Unit} {k : Int} {x : β} (h2 : ∀ k, Maps.has D (.int .i64 k) = (look V k).isSome) (h3 : ∀ k x z, look V k = some x → D.atKey (.int .i64 k) z = .lit (f x)) (hn : look V k = none) (hi : IsMap D)
    (h : w'.ownsMap Tryz.prog 3 (plainElem Tryz.prog E) B (V.length + 1) (D.put (.int .i64 k) (.lit (f x)))) : MapV w' E f B (V ++ [(k, x)]) := by
  have hkey : WideAt.IsKeyLit (.int .i64 k) := by simp [WideAt.IsKeyLit]
  refine ⟨_, by simpa using h, fun j => ?_, fun j y z hj => ?_⟩
  · rw [look_snoc]
    by_cases e : k = j
    · subst e; rw [has_put_same hi hkey, hn]; simp
    · rw [has_put_other (by simpa using fun q : j = k => e q.symm), h2 j]
      split <;> simp_all
  · rw [look_snoc] at hj
    by_cases e : k = j
    · subst e
      rw [hn] at hj
      simp at hj
      subst hj
      exact atKey_put_same hi hkey _ _
    · rw [atKey_put_other (by simpa using fun q : j = k => e q.symm)]
      simp [e] at hj
      exact h3 j y z hj.2
end
theorem plainElem_bool_inv {v : Value} {z : DataW Unit × List MemPlace} (h : plainElem Tryz.prog 4 v = some z) : ∃ x, v = .bool x ∧ z.1 = .lit (.bool x) := by
  have he : Tryz.prog.underlying 4 = some .bool := Tryz.underlying4
  unfold plainElem at h
  rw [he] at h
  cases v <;> simp at h
  subst h
  exact ⟨_, rfl, rfl⟩
theorem run_look_bool {w : World} {B : Nat} {V : List (Int × Bool)} (h : MapB w B V) {k : Int} (hk : Wide k) :
    (Instr.lookup 125 (.map (some B)) (.int .i64 k) true).run Tryz.prog w = .ok (.tuple #[.bool ((look V k).getD false), .bool (look V k).isSome]) w := by
  obtain ⟨D, h1, h2, h3⟩ := h
  obtain ⟨v, ps, hr, hv⟩ := h1.look_ok keyed_int Tryz.underlying125 (zero_bool w) (plainElem_bool Tryz.underlying4 false) (keyOf_int_mk Tryz.underlying3 (wide_wf hk))
  rw [hr, h2 k]
  obtain ⟨x, rfl, hx⟩ := plainElem_bool_inv hv
  cases e : look V k with
  | none =>
    rw [atKey_of_not_has (by rw [h2 k, e]; rfl)] at hx
    simp at hx
    subst hx; simp
  | some y =>
    rw [h3 k y _ e] at hx
    simp at hx
    subst hx; simp
theorem run_look_ok {w : World} {B : Nat} {V : List (Int × Int)} (h : MapI w B V) {k : Int} (hk : Wide k) :
    (Instr.lookup 130 (.map (some B)) (.int .i64 k) true).run Tryz.prog w = .ok (.tuple #[.int .i64 ((look V k).getD 0), .bool (look V k).isSome]) w := by
  obtain ⟨D, h1, h2, h3⟩ := h
  obtain ⟨v, ps, hr, hv⟩ := h1.look_ok keyed_int Tryz.underlying130 (zero_int w) (plainElem_int Tryz.underlying3 (by decide)) (keyOf_int_mk Tryz.underlying3 (wide_wf hk))
  rw [hr, h2 k]
  obtain ⟨x, rfl, hx, _⟩ := plainElem_int_inv Tryz.underlying3 hv
  have hx := congrArg Prod.fst hx
  cases e : look V k with
  | none =>
    rw [atKey_of_not_has (by rw [h2 k, e]; rfl)] at hx
    simp at hx
    subst hx; simp
  | some y =>
    rw [h3 k y _ e] at hx
    simp at hx
    subst hx; simp
theorem run_look_int {w : World} {B : Nat} {V : List (Int × Int)} (h : MapI w B V) {k : Int} (hk : Wide k) :
    (Instr.lookup 130 (.map (some B)) (.int .i64 k) false).run Tryz.prog w = .ok (.int .i64 ((look V k).getD 0)) w := by
  obtain ⟨D, h1, h2, h3⟩ := h
  obtain ⟨c, hr, hat, _⟩ := h1.lookup_int keyed_int Tryz.underlying130 Tryz.underlying3 (zero_int w) (keyOf_int_mk Tryz.underlying3 (wide_wf hk))
  rw [hr]
  cases e : look V k with
  | none =>
    rw [atKey_of_not_has (by rw [h2 k, e]; rfl)] at hat
    simp at hat
    subst hat; simp
  | some y =>
    rw [h3 k y _ e] at hat
    simp at hat
    subst hat; simp
theorem run_store_bool {w : World} {B : Nat} {V : List (Int × Bool)} (h : MapB w B V) {k : Int} (hk : Wide k) (hn : look V k = none) (hl : V.length < maxLen) (x : Bool) :
    ∃ w', (Instr.mapUpdate 125 (.map (some B)) (.int .i64 k) (.bool x)).run Tryz.prog w = .ok () w' ∧ MapB w' B (V ++ [(k, x)]) ∧ w.grownBy w' (some B) := by
  obtain ⟨D, h1, h2, h3⟩ := h
  obtain ⟨w', hr, ho, hg⟩ := h1.update keyed_int Tryz.underlying125 hl (keyOf_int_mk Tryz.underlying3 (wide_wf hk)) (plainElem_bool Tryz.underlying4 x)
  exact ⟨w', hr, MapV.stored h2 h3 hn h1.isMap ho, hg⟩
theorem run_store_int {w : World} {B : Nat} {V : List (Int × Int)} (h : MapI w B V) {k : Int} (hk : Wide k) (hn : look V k = none) (hl : V.length < maxLen) (x : Int) (hx : Wide x) :
    ∃ w', (Instr.mapUpdate 130 (.map (some B)) (.int .i64 k) (.int .i64 x)).run Tryz.prog w = .ok () w' ∧ MapI w' B (V ++ [(k, x)]) ∧ w.grownBy w' (some B) := by
  obtain ⟨D, h1, h2, h3⟩ := h
  obtain ⟨w', hr, ho, hg⟩ := h1.update keyed_int Tryz.underlying130 hl (keyOf_int_mk Tryz.underlying3 (wide_wf hk)) (plainElem_int Tryz.underlying3 (wide_wf hx))
  exact ⟨w', hr, MapV.stored h2 h3 hn h1.isMap ho, hg⟩
/-! At the operation, in a list and in a region that draws. -/
section
variable (w : World) {ops : Array Oper} {rest : List Oper} {o : Oper} {a : Act} {Q : Exit → Act → World → Prop}
theorem wp_mapStore {K : Act → World → Prop} (t : TypeId) (m x u : Operand) (hop : o.op = Op.mapUpdate t m x u) {B : Nat} {k v : Value} (hm : a.eval m = .map (some B)) (hx : a.eval x = k) (hu : a.eval u = v) {R : World → Prop}
    (hr : ∃ w', (Instr.mapUpdate t (.map (some B)) k v).run Tryz.prog w = .ok () w' ∧ R w') (h : ∀ w', R w' → K (a.put o.dst undef) w') : o.wp Tryz.prog a w K Q := by
  obtain ⟨w', hr, hR⟩ := hr
  unfold Oper.wp
  simp [execOp, hop, hm, hx, hu, hr, Result.andThen]
  exact h w' hR
theorem wpList_mapStore (hg : o.guard = none) (t : TypeId) (m x u : Operand) (hop : o.op = Op.mapUpdate t m x u) {B : Nat} {k v : Value} (hm : a.eval m = .map (some B)) (hx : a.eval x = k) (hu : a.eval u = v) {R : World → Prop}
    (hr : ∃ w', (Instr.mapUpdate t (.map (some B)) k v).run Tryz.prog w = .ok () w' ∧ R w') (h : ∀ w', R w' → wpList Tryz.prog ops Q rest (a.put o.dst undef) w') : wpList Tryz.prog ops Q (o :: rest) a w :=
  wpList_plain hg fun _ hK => wp_mapStore w t m x u hop hm hx hu hr fun w' hR => hK _ _ (h w' hR)
theorem step_mapStore {K : Act → World → Prop} {E : Prop} (hg : o.guard = none) (t : TypeId) (m x u : Operand) (hop : o.op = Op.mapUpdate t m x u) {B : Nat} {k v : Value} (hm : a.eval m = .map (some B)) (hx : a.eval x = k) (hu : a.eval u = v) {R : World → Prop}
    (hr : ∃ w', (Instr.mapUpdate t (.map (some B)) k v).run Tryz.prog w = .ok () w' ∧ R w') (h : ∀ w', R w' → K (a.put o.dst undef) w') : if Region.wanted o (yielded ops a.tmps) = true then Oper.wp Tryz.prog o a w K Q else E := by
  rw [if_pos (by simp [Region.wanted, hg])]
  exact wp_mapStore w t m x u hop hm hx hu hr h
end
end Go.Proofs.YtenehghpmnajpaaGreatDoor
/-! A queue: a slice of one-cell elements that begins within a row of the call's own; appending one element; leaving off the first. -/
set_option linter.unusedVariables false
set_option linter.unusedSimpArgs false
namespace Go.Proofs.YtenehghpmnajpaaGreatDoor
open Go.RowKit
def QAt (w : World) (base T : Nat) (v : Value) (xs : List Value) : Prop :=
  ∃ g off cap arr, v = .slice (some ⟨g, off, none⟩) xs.length cap ∧ base ≤ g ∧ Row w g T arr ∧ xs.length ≤ cap ∧ cap ≤ maxLen ∧ off + cap ≤ arr.length ∧ ∀ (j : Nat) u, xs[j]? = some u → arr[off + j]? = some u
theorem QAt.kept {w w' : World} {base T : Nat} {v : Value} {xs : List Value} {row : Option Nat} (h : QAt w base T v xs) (hg : w.grownBy w' row) (hne : v.ownBlock ≠ row) : QAt w' base T v xs := by
  obtain ⟨g, off, cap, arr, rfl, hb, hr, h1⟩ := h
  exact ⟨g, off, cap, arr, rfl, hb, hr.grown hg (by simpa [Value.ownBlock] using hne), h1⟩
theorem QAt.own {w : World} {base T : Nat} {v : Value} {xs : List Value} (h : QAt w base T v xs) : ∃ g, v.ownBlock = some g ∧ base ≤ g ∧ Has w g := by
  obtain ⟨g, off, cap, arr, rfl, hb, hr, _⟩ := h
  exact ⟨g, rfl, hb, hr.has⟩
theorem QAt.head {w : World} {base T : Nat} {v x : Value} {xs : List Value} (h : QAt w base T v (x :: xs)) : ∃ g off cap, v = .slice (some ⟨g, off, none⟩) (xs.length + 1) cap ∧ w.cell? ⟨g, off, none⟩ = some x ∧ xs.length + 1 ≤ cap ∧ cap ≤ maxLen ∧ base ≤ g ∧ (∀ W, QAt W base T v (x :: xs) → QAt W base T (.slice (some ⟨g, off + 1, none⟩) xs.length (cap - 1)) xs) := by
  obtain ⟨g, off, cap, arr, rfl, hb, hr, h1, h2, h3, h4⟩ := h
  have h0 := h4 0 x rfl
  simp only [List.length_cons] at h1
  refine ⟨g, off, cap, rfl, ?_, h1, h2, hb, fun W hW => ?_⟩
  · obtain ⟨hlt, e⟩ := List.getElem?_eq_some_iff.1 h0
    rw [hr.cell off hlt]; exact congrArg some e
  · obtain ⟨g', off', cap', arr', e, hb', hr', h1', h2', h3', h4'⟩ := hW
    simp only [Value.slice.injEq, Option.some.injEq, Addr.mk.injEq] at e
    obtain ⟨⟨rfl, rfl, _⟩, _, rfl⟩ := e
    refine ⟨g, off + 1, cap - 1, arr', rfl, hb', hr', by omega, by omega, by omega, fun j u hj => ?_⟩
    have := h4' (j + 1) u hj
    rwa [show off + 1 + j = off + (j + 1) by omega]
section
variable {P : Program} (w : World)
theorem run_append_q (base : Nat) (t ty T : TypeId) (i : TypeInfo) (z : Value) (ht : P.underlying t = some (.slice T)) (hi : P.info? T = some i) (hz : i.zero = some z) (hs : i.size = 1) (hb : i.bytes = 8) (hzs : z.cells.size = 1)
    (v : Value) (xs : List Value) (hq : QAt w base T v xs) (a : Addr) (c : Nat) (x : Value) (hx : w.cell? a = some x) (h1 : x.oneCell' = true) (hl : xs.length + 1 ≤ 1000000) (hbase : base ≤ w.heap.size) :
    ∃ v' w', (Builtin.append_ #[t, t] ty #[v, .slice (some a) 1 c]).run P w = .ok v' w' ∧ QAt w' base T v' (xs ++ [x]) ∧ w.grownBy w' v.ownBlock ∧ (v'.ownBlock = v.ownBlock ∨ ∃ g, v'.ownBlock = some g ∧ w.heap.size ≤ g) := by
  obtain ⟨g, off, cap, arr, rfl, hbg, hr, hxc, hcm, hoff, hel⟩ := hq
  have hnews : ∀ j u, [x][j]? = some u → w.cell? (a.add j) = some u := by
    intro j u hj
    match j, hj with
    | 0, hj =>
      simp at hj; subst hj
      have : a.add 0 = a := by obtain ⟨b, o, s⟩ := a; cases s <;> simp [Addr.add]
      rw [this]; exact hx
  have hone : ∀ u ∈ [x], u.oneCell' = true := by intro u hu; have : u = x := by simpa using hu
                                                 subst this; exact h1
  by_cases hroom : xs.length + 1 ≤ cap
  · have hcell : ∀ j, j < [x].length → (w.cell? ⟨g, off + xs.length * i.size + j, none⟩).isSome = true := by
      intro j hj
      have hj0 : j = 0 := by simpa using hj
      subst hj0
      rw [hs, hr.cell _ (by omega)]; rfl
    have hfr : ∀ j, j < [x].length → w.frozen? ⟨g, off + xs.length * i.size + j, none⟩ = false := fun j _ => hr.free _
    have hrun := run_append_room_cells (P := P) w t ty T i ht hi g off xs.length cap a 1 c [x] (by simp [hs]) hnews hone hroom hcell hfr
    rw [hs, Nat.mul_one] at hrun
    have hsc : w.setCells g (off + xs.length) [x] = w.setCell ⟨g, off + xs.length, none⟩ x := rfl
    rw [hsc] at hrun
    refine ⟨_, _, hrun, ⟨g, off, cap, arr.set (off + xs.length) x, by simp, hbg, hr.set _ _, by simpa using hroom, hcm, by simpa using hoff, fun j u hj => ?_⟩, grownBy_set w g _ _, .inl rfl⟩
    by_cases hjl : j < xs.length
    · rw [List.getElem?_append_left hjl] at hj
      rw [List.getElem?_set_ne (by omega)]
      exact hel j u hj
    · rw [List.getElem?_append_right (by omega)] at hj
      have : j = xs.length := by
        have := (List.getElem?_eq_some_iff.1 hj).1; simp at this; omega
      subst this
      simp at hj
      subst hj
      rw [List.getElem?_set_self (by omega)]
  · have holds : ∀ j u, xs[j]? = some u → w.cell? ((⟨g, off, none⟩ : Addr).add j) = some u := by
      intro j u hj
      have := hel j u hj
      obtain ⟨hlt, e⟩ := List.getElem?_eq_some_iff.1 this
      have hadd : (⟨g, off, none⟩ : Addr).add j = ⟨g, off + j, none⟩ := by unfold Addr.add; split <;> simp_all
      rw [hadd, hr.cell _ hlt]; exact congrArg some e
    obtain ⟨v', w', hrun, hown, hgr⟩ := run_append_arg_grows (P := P) w t ty T i z 1 8 ht hi hz hs hb hzs (by omega) ⟨g, off, none⟩ xs.length cap xs (by simp) holds a 1 c [x] (by simp) hnews (by omega) (by unfold maxLen; omega) (by omega)
    refine ⟨v', w', hrun, ?_, ⟨hgr.os, hgr.tape, hgr.output, hgr.size, fun k hk _ => hgr.block k hk (by simp)⟩, ?_⟩
    · obtain ⟨h0, ⟨_, h⟩ | ⟨g', cap', cur, rfl, hb', hg', hn', hm', hs', ht'⟩⟩ := hown
      · omega
      · refine ⟨g', 0, cap', cur.toList, by simp, Nat.le_trans hbase hb', hg', by simpa using hn', hm', by simp [hs'], fun j u hj => ?_⟩
        rw [← ht', List.getElem?_take] at hj
        split at hj
        · simpa using hj
        · cases hj
    · obtain ⟨h0, ⟨_, h⟩ | ⟨g', cap', cur, rfl, hb', _⟩⟩ := hown
      · omega
      · exact .inr ⟨g', rfl, hb'⟩
theorem wp_append_q {o : Oper} {a : Act} {K : Act → World → Prop} {Q : Exit → Act → World → Prop} (s x : Operand) (t : TypeId) (ho : o.op = .call { callee := .builtin .append, args := #[s, x], argTypes := #[t, t] })
    (base : Nat) (T : TypeId) (i : TypeInfo) (z : Value) (ht : P.underlying t = some (.slice T)) (hi : P.info? T = some i) (hz : i.zero = some z) (hs : i.size = 1) (hb : i.bytes = 8) (hzs : z.cells.size = 1)
    (v : Value) (xs : List Value) (hv : a.eval s = v) (hq : QAt w base T v xs) (ad : Addr) (c : Nat) (u : Value) (hx : a.eval x = .slice (some ad) 1 c) (hc : w.cell? ad = some u) (h1 : u.oneCell' = true) (hl : xs.length + 1 ≤ 1000000) (hbase : base ≤ w.heap.size)
    (h : ∀ v' w', QAt w' base T v' (xs ++ [u]) → w.grownBy w' v.ownBlock → (v'.ownBlock = v.ownBlock ∨ ∃ g, v'.ownBlock = some g ∧ w.heap.size ≤ g) → K (a.put o.dst v') w') : o.wp P a w K Q := by
  obtain ⟨v', w', q1, q2, q3, q4⟩ := run_append_q (P := P) w base t o.type T i z ht hi hz hs hb hzs v xs hq ad c u hc h1 hl hbase
  unfold Oper.wp execOp
  simp only [ho, resolve, invoke, builtin, Sem.run_bind, Sem.run_pure, Result.andThen_ok, List.map_toArray, List.map_cons, List.map_nil, hv, hx, q1]
  exact h v' w' q2 q3 q4
theorem wpList_append_q {ops : Array Oper} {rest : List Oper} {o : Oper} {a : Act} {Q : Exit → Act → World → Prop} (hgd : o.guard = none) (s x : Operand) (t : TypeId) (ho : o.op = .call { callee := .builtin .append, args := #[s, x], argTypes := #[t, t] })
    (base : Nat) (T : TypeId) (i : TypeInfo) (z : Value) (ht : P.underlying t = some (.slice T)) (hi : P.info? T = some i) (hz : i.zero = some z) (hs : i.size = 1) (hb : i.bytes = 8) (hzs : z.cells.size = 1)
    (v : Value) (xs : List Value) (hv : a.eval s = v) (hq : QAt w base T v xs) (ad : Addr) (c : Nat) (u : Value) (hx : a.eval x = .slice (some ad) 1 c) (hc : w.cell? ad = some u) (h1 : u.oneCell' = true) (hl : xs.length + 1 ≤ 1000000) (hbase : base ≤ w.heap.size)
    (h : ∀ v' w', QAt w' base T v' (xs ++ [u]) → w.grownBy w' v.ownBlock → (v'.ownBlock = v.ownBlock ∨ ∃ g, v'.ownBlock = some g ∧ w.heap.size ≤ g) → wpList P ops Q rest (a.put o.dst v') w') : wpList P ops Q (o :: rest) a w :=
  wpList_plain hgd fun _ hK => wp_append_q w s x t ho base T i z ht hi hz hs hb hzs v xs hv hq ad c u hx hc h1 hl hbase fun v' w' q1 q2 q3 => hK _ _ (h v' w' q1 q2 q3)
end
end Go.Proofs.YtenehghpmnajpaaGreatDoor

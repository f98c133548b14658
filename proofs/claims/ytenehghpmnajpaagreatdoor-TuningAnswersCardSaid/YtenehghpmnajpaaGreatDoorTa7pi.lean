/- Lemmas and contracts for the proof of TuningAnswers (several texts in one, printed by wip/tools/pack.py): Kk Kl Tr Km. -/
import Derived.Test.YtenehghpmnajpaaGreatDoorTa7pd
import Derived.Maps.OwnSet
import Derived.ArgAppend
import Derived.Test.YtenehghpmnajpaaGreatDoorTa7ph
import Derived.Test.YtenehghpmnajpaaGreatDoorTa7pg
import Derived.Test.YtenehghpmnajpaaGreatDoorTa7pf
import Derived.Lib.LaidTab
import Derived.Test.YtenehghpmnajpaaGreatDoorTa7pb
/-! Plain: a search in width over nodes that have a code; what its distances are. No program in sight. -/
set_option linter.unusedVariables false
set_option linter.unusedSectionVars false
set_option linter.unusedSimpArgs false
namespace Go.Proofs.YtenehghpmnajpaaGreatDoor
def look {α β : Type} [DecidableEq α] (V : List (α × β)) (k : α) : Option β := (V.find? (fun p => decide (p.1 = k))).map (·.2)
theorem look_nil {α β : Type} [DecidableEq α] (k : α) : look ([] : List (α × β)) k = none := rfl
theorem look_cons {α β : Type} [DecidableEq α] (q : α × β) (V : List (α × β)) (k : α) : look (q :: V) k = if q.1 = k then some q.2 else look V k := by
  unfold look
  by_cases h : q.1 = k <;> simp [h]
theorem look_snoc {α β : Type} [DecidableEq α] (V : List (α × β)) (k j : α) (x : β) : look (V ++ [(k, x)]) j = if (look V j).isSome then look V j else if k = j then some x else none := by
  induction V with
  | nil => simp [look_cons, look_nil]
  | cons q V ih =>
    rw [List.cons_append, look_cons, look_cons, ih]
    by_cases h : q.1 = j <;> simp [h]
theorem look_some {α β : Type} [DecidableEq α] {V : List (α × β)} {k : α} {x : β} (h : look V k = some x) : (k, x) ∈ V := by
  induction V with
  | nil => cases h
  | cons q V ih =>
    rw [look_cons] at h
    by_cases e : q.1 = k
    · rw [if_pos e] at h; cases h; subst e; exact List.mem_cons_self
    · rw [if_neg e] at h; exact List.mem_cons_of_mem _ (ih h)
theorem look_none {α β : Type} [DecidableEq α] {V : List (α × β)} {k : α} : look V k = none ↔ k ∉ V.map (·.1) := by
  induction V with
  | nil => simp [look_nil]
  | cons q V ih =>
    rw [look_cons]
    by_cases e : q.1 = k
    · simp [e]
    · rw [if_neg e, ih]; simp; intro _ h; exact e h.symm
theorem look_mem {α β : Type} [DecidableEq α] {V : List (α × β)} (hn : (V.map (·.1)).Nodup) {k : α} {x : β} (h : (k, x) ∈ V) : look V k = some x := by
  induction V with
  | nil => cases h
  | cons q V ih =>
    rw [List.map_cons, List.nodup_cons] at hn
    rw [look_cons]
    rcases List.mem_cons.1 h with e | h
    · subst e; simp
    · have : q.1 ≠ k := fun e => hn.1 (e ▸ List.mem_map_of_mem (f := (·.1)) h)
      rw [if_neg this]; exact ih hn.2 h
section
variable {α : Type} [DecidableEq α] (nb : α → List (Int × Int × α))
def addB (d : Int) (V : List (α × Int)) (t : Int × Int × α) : List (α × Int) := if (look V t.2.2).isSome then V else V ++ [(t.2.2, d + 1)]
def stepB (V : List (α × Int)) (p : Nat) : List (α × Int) := match V[p]? with
  | none => V
  | some q => (nb q.1).foldl (addB q.2) V
def afterB (src : α) : Nat → List (α × Int)
  | 0 => [(src, 0)]
  | p + 1 => stepB nb (afterB src p) p
theorem foldB (d : Int) (ts : List (Int × Int × α)) : ∀ V : List (α × Int), ∃ ext, ts.foldl (addB d) V = V ++ ext ∧ (∀ q ∈ ext, q.2 = d + 1 ∧ ∃ t ∈ ts, t.2.2 = q.1) ∧ (∀ t ∈ ts, (look (ts.foldl (addB d) V) t.2.2).isSome) ∧ ((V.map (·.1)).Nodup → ((ts.foldl (addB d) V).map (·.1)).Nodup) := by
  induction ts with
  | nil => intro V; exact ⟨[], by simp, by simp, by simp, fun h => h⟩
  | cons t ts ih =>
    intro V
    obtain ⟨ext, e1, e2, e3, e4⟩ := ih (addB d V t)
    have hsome : ∀ (W ext : List (α × Int)) k, (look W k).isSome → (look (W ++ ext) k).isSome := by
      intro W ext k h
      cases hh : look (W ++ ext) k with
      | some _ => rfl
      | none =>
        rw [look_none] at hh
        cases hw : look W k with
        | none => rw [hw] at h; cases h
        | some x => exact absurd (List.mem_map_of_mem (f := (·.1)) (List.mem_append_left ext (look_some hw))) hh
    have ht : (look (addB d V t) t.2.2).isSome := by
      unfold addB
      by_cases h : (look V t.2.2).isSome
      · rw [if_pos h]; exact h
      · rw [if_neg h, look_snoc, if_neg h]; simp
    rw [List.foldl_cons]
    by_cases h : (look V t.2.2).isSome
    · have ea : addB d V t = V := by unfold addB; rw [if_pos h]
      rw [ea] at e1 e3 e4 ht ⊢
      refine ⟨ext, e1, fun q hq => ⟨(e2 q hq).1, ?_⟩, ?_, e4⟩
      · obtain ⟨t', h1, h2⟩ := (e2 q hq).2; exact ⟨t', List.mem_cons_of_mem _ h1, h2⟩
      · intro t' ht'
        rcases List.mem_cons.1 ht' with e | h'
        · subst e; rw [e1]; exact hsome _ _ _ ht
        · exact e3 t' h'
    · have ea : addB d V t = V ++ [(t.2.2, d + 1)] := by unfold addB; rw [if_neg h]
      rw [ea] at e1 e3 e4 ht ⊢
      refine ⟨(t.2.2, d + 1) :: ext, by rw [e1]; simp, ?_, ?_, fun hn => e4 ?_⟩
      · intro q hq
        rcases List.mem_cons.1 hq with e | hq
        · subst e; exact ⟨rfl, t, List.mem_cons_self, rfl⟩
        · obtain ⟨t', h1, h2⟩ := (e2 q hq).2; exact ⟨(e2 q hq).1, t', List.mem_cons_of_mem _ h1, h2⟩
      · intro t' ht'
        rcases List.mem_cons.1 ht' with e | h'
        · subst e; rw [e1]; exact hsome _ _ _ ht
        · exact e3 t' h'
      · rw [List.map_append, List.nodup_append]
        refine ⟨hn, by simp, ?_⟩
        intro a ha b hb e
        subst e
        have hb' : a = t.2.2 := by simpa using hb
        subst hb'
        have : look V t.2.2 = none := by cases hh : look V t.2.2 with
          | none => rfl
          | some _ => rw [hh] at h; exact absurd rfl h
        exact (look_none.1 this) ha
structure BInv (src : α) (p : Nat) (V : List (α × Int)) : Prop where
  nodup : (V.map (·.1)).Nodup
  first : V[0]? = some (src, 0)
  nonneg : ∀ q ∈ V, 0 ≤ q.2 ∧ (q.2 = 0 → q.1 = src)
  sorted : ∀ (i j : Nat) (a b : α × Int), i ≤ j → V[i]? = some a → V[j]? = some b → a.2 ≤ b.2
  bound : ∀ (a b : α × Int), V[p]? = some a → b ∈ V → b.2 ≤ a.2 + 1
  done : ∀ (i : Nat), i < p → ∀ a, V[i]? = some a → ∀ t ∈ nb a.1, ∃ e, (t.2.2, e) ∈ V ∧ e ≤ a.2 + 1
  par : ∀ b ∈ V, b = (src, 0) ∨ ∃ a ∈ V, b.2 = a.2 + 1 ∧ ∃ t ∈ nb a.1, t.2.2 = b.1
theorem BInv.start (src : α) : BInv nb src 0 [(src, 0)] where
  nodup := by simp
  first := rfl
  nonneg := by intro q hq; have : q = (src, 0) := by simpa using hq
               subst this; exact ⟨Int.le_refl _, fun _ => rfl⟩
  sorted := by
    intro i j a b hij ha hb
    cases i with
    | succ i => simp at ha
    | zero => cases j with
      | succ j => simp at hb
      | zero => simp at ha hb; subst ha; subst hb; exact Int.le_refl _
  bound := by
    intro a b ha hb
    simp at ha hb; subst ha; subst hb; simp
  done := by intro i hi; omega
  par := by intro b hb; left; simpa using hb
theorem BInv.step {src : α} {p : Nat} {V : List (α × Int)} (h : BInv nb src p V) : BInv nb src (p + 1) (stepB nb V p) ∧ ∃ ext, stepB nb V p = V ++ ext := by
  unfold stepB
  cases hp : V[p]? with
  | none =>
    have hl : V.length ≤ p := by simpa using hp
    refine ⟨⟨h.nodup, h.first, h.nonneg, h.sorted, ?_, ?_, h.par⟩, [], by simp⟩
    · intro a b ha; have : V[p + 1]? = none := by simp; omega
      rw [this] at ha; cases ha
    · intro i hi a ha
      have : i < V.length := (List.getElem?_eq_some_iff.1 ha).1
      exact h.done i (by omega) a ha
  | some q =>
    obtain ⟨ext, e1, e2, e3, e4⟩ := foldB (α := α) q.2 (nb q.1) V
    simp only
    refine ⟨?_, ext, e1⟩
    have hpl : p < V.length := (List.getElem?_eq_some_iff.1 hp).1
    have hl := h.nonneg q (List.mem_of_getElem? hp)
    have hold : ∀ (i : Nat) (a : α × Int), i < V.length → (V ++ ext)[i]? = some a → V[i]? = some a := fun i a hi ha => by rwa [List.getElem?_append_left hi] at ha
    have hcase : ∀ (i : Nat) (a : α × Int), (V ++ ext)[i]? = some a → (i < V.length ∧ V[i]? = some a) ∨ (V.length ≤ i ∧ a ∈ ext) := fun i a ha => by
      by_cases hi : i < V.length
      · exact .inl ⟨hi, hold i a hi ha⟩
      · rw [List.getElem?_append_right (by omega)] at ha; exact .inr ⟨by omega, List.mem_of_getElem? ha⟩
    have hs : ∀ (i j : Nat) (a b : α × Int), i ≤ j → (V ++ ext)[i]? = some a → (V ++ ext)[j]? = some b → a.2 ≤ b.2 := by
      intro i j a b hij ha hb
      rcases hcase i a ha with ⟨hi, ha'⟩ | ⟨hi, ha'⟩
      · rcases hcase j b hb with ⟨hj, hb'⟩ | ⟨hj, hb'⟩
        · exact h.sorted i j a b hij ha' hb'
        · rw [(e2 b hb').1]; exact h.bound q a hp (List.mem_of_getElem? ha')
      · rcases hcase j b hb with ⟨hj, hb'⟩ | ⟨hj, hb'⟩
        · omega
        · rw [(e2 b hb').1, (e2 a ha').1]; exact Int.le_refl _
    have hn := e4 h.nodup
    rw [e1] at hn e3 ⊢
    refine ⟨hn, ?_, ?_, hs, ?_, ?_, ?_⟩
    · rw [List.getElem?_append_left (by have := (List.getElem?_eq_some_iff.1 h.first).1; omega)]; exact h.first
    · intro x hx
      rcases List.mem_append.1 hx with hx | hx
      · exact h.nonneg x hx
      · have := (e2 x hx).1; exact ⟨by omega, fun e => by omega⟩
    · intro a b ha hb
      have hqa : q.2 ≤ a.2 := hs p (p + 1) q a (by omega) (by rw [List.getElem?_append_left hpl]; exact hp) ha
      rcases List.mem_append.1 hb with hb | hb
      · have := h.bound q b hp hb; omega
      · have := (e2 b hb).1; omega
    · intro i hi a ha t ht
      by_cases e : i = p
      · subst e
        have : a = q := by have := hold i a hpl ha; rw [hp] at this; cases this; rfl
        subst this
        have hsm := e3 t ht
        cases hk : look (V ++ ext) t.2.2 with
        | none => rw [hk] at hsm; cases hsm
        | some x =>
          refine ⟨x, look_some hk, ?_⟩
          rcases List.mem_append.1 (look_some hk) with hx | hx
          · exact h.bound a _ hp hx
          · have := (e2 _ hx).1; simp at this; omega
      · have hil : i < V.length := by omega
        obtain ⟨x, hx, hle⟩ := h.done i (by omega) a (hold i a hil ha) t ht
        exact ⟨x, List.mem_append_left _ hx, hle⟩
    · intro b hb
      rcases List.mem_append.1 hb with hb | hb
      · rcases h.par b hb with e | ⟨a, ha, q1, q2⟩
        · exact .inl e
        · exact .inr ⟨a, List.mem_append_left _ ha, q1, q2⟩
      · obtain ⟨q1, t, q2, q3⟩ := e2 b hb
        exact .inr ⟨q, List.mem_append_left _ (List.mem_of_getElem? hp), q1, t, q2, q3⟩
theorem BInv.after (src : α) : ∀ p, BInv nb src p (afterB nb src p)
  | 0 => BInv.start nb src
  | p + 1 => ((BInv.after src p).step nb).1
structure IsDist (src : α) (D : α → Option Int) : Prop where
  zero : D src = some 0
  only : ∀ n, D n = some 0 → n = src
  nonneg : ∀ n d, D n = some d → 0 ≤ d
  par : ∀ n d, D n = some d → 0 < d → ∃ m t, D m = some (d - 1) ∧ t ∈ nb m ∧ t.2.2 = n
  step : ∀ m d t, D m = some d → t ∈ nb m → ∃ e, D t.2.2 = some e ∧ e ≤ d + 1
theorem BInv.dist {src : α} {p : Nat} {V : List (α × Int)} (h : BInv nb src p V) (hp : V.length ≤ p) : IsDist nb src (look V) where
  zero := look_mem h.nodup (List.mem_of_getElem? h.first)
  only := fun n hn => (h.nonneg _ (look_some hn)).2 rfl
  nonneg := fun n d hn => (h.nonneg _ (look_some hn)).1
  par := by
    intro n d hn hd
    rcases h.par _ (look_some hn) with e | ⟨a, ha, q1, t, q2, q3⟩
    · injection e with e1 e2; omega
    · exact ⟨a.1, t, by rw [look_mem h.nodup (k := a.1) (x := a.2) ha]; congr 1; simp at q1; omega, q2, q3⟩
  step := by
    intro m d t hm ht
    obtain ⟨i, hi⟩ := List.getElem?_of_mem (look_some hm)
    have hil : i < V.length := (List.getElem?_eq_some_iff.1 hi).1
    obtain ⟨e, he, hle⟩ := h.done i (by omega) _ hi t ht
    exact ⟨e, look_mem h.nodup he, hle⟩
theorem IsDist.le {src : α} {D D' : α → Option Int} (h : IsDist nb src D) (h' : IsDist nb src D') : ∀ (k : Nat) n, D n = some (k : Int) → ∃ d', D' n = some d' ∧ d' ≤ k := by
  intro k
  induction k with
  | zero => intro n hn; have := h.only n hn; subst this; exact ⟨0, h'.zero, by simp⟩
  | succ k ih =>
    intro n hn
    obtain ⟨m, t, h1, h2, h3⟩ := h.par n _ hn (by omega)
    obtain ⟨d', h4, h5⟩ := ih m (by rw [h1]; congr 1; omega)
    obtain ⟨e, h6, h7⟩ := h'.step m d' t h4 h2
    rw [h3] at h6
    exact ⟨e, h6, by omega⟩
theorem IsDist.unique {src : α} {D D' : α → Option Int} (h : IsDist nb src D) (h' : IsDist nb src D') : D = D' := by
  funext n
  cases hd : D n with
  | none =>
    cases hd' : D' n with
    | none => rfl
    | some d =>
      have := h'.nonneg n d hd'
      obtain ⟨e, he, _⟩ := h'.le nb h d.toNat n (by rw [hd']; congr 1; omega)
      rw [hd] at he; cases he
  | some d =>
    have h0 := h.nonneg n d hd
    obtain ⟨e, he, hle⟩ := h.le nb h' d.toNat n (by rw [hd]; congr 1; omega)
    have h1 := h'.nonneg n e he
    obtain ⟨e2, he2, hle2⟩ := h'.le nb h e.toNat n (by rw [he]; congr 1; omega)
    rw [hd] at he2; cases he2
    rw [he]; congr 1; omega
end
end Go.Proofs.YtenehghpmnajpaaGreatDoor
/-! Plain: settings, their numbers, their neighbours; plans without limits. No program in sight. -/
set_option linter.unusedVariables false
set_option linter.unusedSectionVars false
set_option linter.unusedSimpArgs false
namespace Go.Proofs.YtenehghpmnajpaaGreatDoor
open Classical
def kOf (l : List Clk) (i : Nat) : Int := match l[i]? with | some c => (c.choices.length : Int) | none => 0
def sOf (s : List Int) (i : Nat) : Int := s.getD i 0
theorem kOf_at {l : List Clk} {i : Nat} (h : i < l.length) : kOf l i = (l[i].choices.length : Int) := by simp [kOf, List.getElem?_eq_getElem h]
theorem sOf_at {s : List Int} {i : Nat} (h : i < s.length) : sOf s i = s[i] := by simp [sOf, List.getD_eq_getElem?_getD, List.getElem?_eq_getElem h]
theorem sOf_set {s : List Int} {i j : Nat} {x : Int} (h : i < s.length) : sOf (s.set i x) j = if j = i then x else sOf s j := getD_set s i j x 0 h
theorem setOk_of {l : List Clk} {s : List Int} (hl : s.length = l.length) (h : ∀ i, i < l.length → 0 ≤ sOf s i ∧ sOf s i < kOf l i) : SetOk l s :=
  ⟨hl, fun i h1 h2 => by have := h i h1; rw [sOf_at h2, kOf_at h1] at this; exact this⟩
theorem SetOk.at {l : List Clk} {s : List Int} (h : SetOk l s) {i : Nat} (hi : i < l.length) : 0 ≤ sOf s i ∧ sOf s i < kOf l i := by
  rw [sOf_at (by rw [h.1]; exact hi), kOf_at hi]; exact h.2 i hi (by rw [h.1]; exact hi)
theorem SetOk.set {l : List Clk} {s : List Int} (h : SetOk l s) {i : Nat} {x : Int} (hi : i < l.length) (h0 : 0 ≤ x) (h1 : x < kOf l i) : SetOk l (s.set i x) :=
  setOk_of (by rw [List.length_set]; exact h.1) fun j hj => by
    rw [sOf_set (by rw [h.1]; exact hi)]
    split
    · rename_i e; subst e; exact ⟨h0, h1⟩
    · exact h.at hj
theorem ext_s {s t : List Int} (hl : s.length = t.length) (h : ∀ i, i < s.length → sOf s i = sOf t i) : s = t :=
  List.ext_getElem hl fun i h1 h2 => by have := h i h1; rwa [sOf_at h1, sOf_at h2] at this
theorem set_set_s {s : List Int} {i : Nat} {x : Int} (hi : i < s.length) : (s.set i x).set i (sOf s i) = s := by
  rw [List.set_set, sOf_at hi]; simp
/-! Numbers -/
def numU (K S : Nat → Int) : Nat → Int
  | 0 => 0
  | j + 1 => numU K S j * K j + S j
/-- The number of a setting. -/
def num (l : List Clk) (s : List Int) : Int := numU (kOf l) (sOf s) l.length
theorem numU_bound {l : List Clk} {s : List Int} (h : SetOk l s) : ∀ j, j ≤ l.length → 0 ≤ numU (kOf l) (sOf s) j ∧ numU (kOf l) (sOf s) j < (prodC (l.take j) : Nat) := by
  intro j
  induction j with
  | zero => intro _; simp [numU, prodC]
  | succ j ih =>
    intro hj
    obtain ⟨h0, h1⟩ := ih (by omega)
    have h2 := h.at (i := j) (by omega)
    have hk := kOf_at (l := l) (i := j) (by omega)
    simp only [numU]
    rw [prodC_take l j (by omega), Int.natCast_mul, ← hk]
    have hk0 : 0 ≤ kOf l j := by omega
    have h3 : numU (kOf l) (sOf s) j * kOf l j ≤ ((prodC (l.take j) : Nat) - 1) * kOf l j := Int.mul_le_mul_of_nonneg_right (by omega) hk0
    have h4 : 0 ≤ numU (kOf l) (sOf s) j * kOf l j := Int.mul_nonneg h0 hk0
    rw [Int.sub_mul] at h3
    omega
theorem num_bound {l : List Clk} {s : List Int} (h : SetOk l s) : 0 ≤ num l s ∧ num l s < (prodC l : Nat) := by
  have := numU_bound h l.length (Nat.le_refl _)
  rwa [List.take_length] at this
theorem numU_divmod {l : List Clk} {s : List Int} (h : SetOk l s) {j : Nat} (hj : j < l.length) : numU (kOf l) (sOf s) (j + 1) / kOf l j = numU (kOf l) (sOf s) j ∧ numU (kOf l) (sOf s) (j + 1) % kOf l j = sOf s j := by
  have h2 := h.at hj
  simp only [numU]
  constructor
  · rw [Int.add_comm, Int.add_mul_ediv_right _ _ (by omega), Int.ediv_eq_zero_of_lt h2.1 h2.2, Int.zero_add]
  · rw [Int.add_comm, Int.add_mul_emod_self_right, Int.emod_eq_of_lt h2.1 h2.2]
theorem num_inj {l : List Clk} {s t : List Int} (h : SetOk l s) (k : SetOk l t) (e : num l s = num l t) : s = t := by
  have : ∀ j, j ≤ l.length → numU (kOf l) (sOf s) j = numU (kOf l) (sOf t) j → ∀ i, i < j → sOf s i = sOf t i := by
    intro j
    induction j with
    | zero => intro _ _ i hi; omega
    | succ j ih =>
      intro hj e i hi
      have d1 := numU_divmod h (j := j) (by omega)
      have d2 := numU_divmod k (j := j) (by omega)
      rw [e] at d1
      by_cases hij : i = j
      · subst hij; rw [← d1.2, ← d2.2]
      · exact ih (by omega) (by rw [← d1.1, ← d2.1]) i (by omega)
  exact ext_s (by rw [h.1, k.1]) fun i hi => this l.length (Nat.le_refl _) e i (by rw [← h.1]; exact hi)
/-! Neighbours -/
abbrev Nbr := Int × Int × List Int
def nbOne (cal : List Int → Bool) (s : List Int) (i j : Nat) : Option Nbr := if (j : Int) ≠ sOf s i ∧ cal (s.set i j) = true then some (i, j, s.set i j) else none
def nbRow (cal : List Int → Bool) (s : List Int) (i k : Nat) : List Nbr := (List.range k).filterMap (nbOne cal s i)
def nbTo (l : List Clk) (cal : List Int → Bool) (s : List Int) (i : Nat) : List Nbr := (List.range i).flatMap fun i => nbRow cal s i (kOf l i).toNat
/-- The calm settings to which one write leads, in the order of the writes. -/
def nbS (l : List Clk) (cal : List Int → Bool) (s : List Int) : List Nbr := nbTo l cal s l.length
theorem mem_nbS {l : List Clk} {cal : List Int → Bool} {s : List Int} {t : Nbr} : t ∈ nbS l cal s ↔ ∃ i j : Nat, i < l.length ∧ (j : Int) < kOf l i ∧ (j : Int) ≠ sOf s i ∧ cal (s.set i j) = true ∧ t = ((i : Int), (j : Int), s.set i j) := by
  unfold nbS nbTo nbRow nbOne
  simp only [List.mem_flatMap, List.mem_filterMap, List.mem_range]
  constructor
  · rintro ⟨i, hi, j, hj, h⟩
    split at h
    · rename_i hc; cases h; exact ⟨i, j, hi, by omega, hc.1, hc.2, rfl⟩
    · cases h
  · rintro ⟨i, j, hi, hj, h1, h2, rfl⟩
    exact ⟨i, hi, j, by omega, by rw [if_pos ⟨h1, h2⟩]⟩
theorem nb_sym {l : List Clk} {cal : List Int → Bool} {s : List Int} {t : Nbr} (h : t ∈ nbS l cal s) (hs : SetOk l s) (hc : cal s = true) : ∃ u ∈ nbS l cal t.2.2, u.2.2 = s := by
  obtain ⟨i, j, hi, hj, h1, h2, rfl⟩ := mem_nbS.1 h
  have hi' : i < s.length := by rw [hs.1]; exact hi
  obtain ⟨h3, h4⟩ := hs.at hi
  have e : (s.set i (j : Int)).set i (sOf s i) = s := set_set_s hi'
  refine ⟨((i : Int), sOf s i, s), mem_nbS.2 ⟨i, (sOf s i).toNat, hi, by omega, ?_, ?_, ?_⟩, rfl⟩
  · simp only; rw [sOf_set hi', if_pos rfl]; omega
  · simp only; rw [show (((sOf s i).toNat : Nat) : Int) = sOf s i by omega, e]; exact hc
  · simp only; rw [show (((sOf s i).toNat : Nat) : Int) = sOf s i by omega, e]
/-- Distances: what is reached is right and calm, and a nearer neighbour is there. -/
structure DistOk (l : List Clk) (cal : List Int → Bool) (src : List Int) (D : List Int → Option Int) : Prop where
  dist : IsDist (nbS l cal) src D
  ok : ∀ x d, D x = some d → SetOk l x ∧ cal x = true
theorem DistOk.near {l : List Clk} {cal : List Int → Bool} {src : List Int} {D : List Int → Option Int} (h : DistOk l cal src D) {x : List Int} {d : Int} (hx : D x = some d) (hd : 0 < d) : ∃ t ∈ nbS l cal x, D t.2.2 = some (d - 1) := by
  obtain ⟨m, t, h1, h2, h3⟩ := h.dist.par x d hx hd
  obtain ⟨u, hu, e⟩ := nb_sym h2 (h.ok m _ h1).1 (h.ok m _ h1).2
  rw [h3] at hu
  exact ⟨u, hu, by rw [e]; exact h1⟩
/-- The distance in the program's words: nought where nothing is known. -/
def dz (D : List Int → Option Int) (x : List Int) : Int := (D x).getD 0
theorem DistOk.found {l : List Clk} {cal : List Int → Bool} {src : List Int} {D : List Int → Option Int} (h : DistOk l cal src D) {x : List Int} {d : Int} (hx : D x = some d) (hd : 0 < d) :
    ∃ t, (nbS l cal x).find? (fun t => decide (dz D t.2.2 = dz D x - 1)) = some t ∧ t ∈ nbS l cal x ∧ D t.2.2 = some (d - 1) := by
  obtain ⟨u, hu, e⟩ := h.near hx hd
  cases hf : (nbS l cal x).find? (fun t => decide (dz D t.2.2 = dz D x - 1)) with
  | none =>
    have := List.find?_eq_none.1 hf u hu
    simp [dz, e, hx] at this
  | some t =>
    have h1 := List.mem_of_find?_eq_some hf
    have h2 := List.find?_some hf
    refine ⟨t, rfl, h1, ?_⟩
    obtain ⟨f, hf', _⟩ := h.dist.step x d t hx h1
    simp [dz, hf', hx] at h2
    rw [hf', h2]
end Go.Proofs.YtenehghpmnajpaaGreatDoor
/-! Plain: without limits the plan changes each choice that differs once, in the order of the clocks. No program in sight. -/
set_option linter.unusedVariables false
set_option linter.unusedSectionVars false
set_option linter.unusedSimpArgs false
namespace Go.Proofs.YtenehghpmnajpaaGreatDoor
open Classical
section
variable {l : List Clk} {b : List Int} {D : List Int → Option Int}
end
end Go.Proofs.YtenehghpmnajpaaGreatDoor
/-! Maps by whole numbers that a call makes: which entries they have; looking up and storing. -/
set_option linter.unusedVariables false
set_option linter.unusedSimpArgs false
namespace Go.Proofs.YtenehghpmnajpaaGreatDoor
open Go.RowKit Go.Maps
/-- Block B is a map by whole numbers with the entries V. -/
def MapV {β : Type} (w : World) (E : TypeId) (f : β → Lit) (B : Nat) (V : List (Int × β)) : Prop :=
  ∃ D : DataW Unit, w.ownsMap Tryz.prog 3 (plainElem Tryz.prog E) B V.length D ∧ (∀ k, Maps.has D (.int .i64 k) = (look V k).isSome) ∧ ∀ k x z, look V k = some x → D.atKey (.int .i64 k) z = .lit (f x)
abbrev MapB (w : World) (B : Nat) (V : List (Int × Bool)) : Prop := MapV w 4 Lit.bool B V
section
variable {β : Type} {w : World} {E : TypeId} {f : β → Lit} {B : Nat} {V : List (Int × β)}
theorem MapV.has (h : MapV w E f B V) : Has w B := by
  obtain ⟨D, h, _⟩ := h
  exact h.lt
theorem MapV.kept {w' : World} {row : Option Nat} (h : MapV w E f B V) (hg : w.grownBy w' row) (hne : some B ≠ row) : MapV w' E f B V := by
  obtain ⟨D, h1, h2⟩ := h
  exact ⟨D, h1.kept hg hne, h2⟩
theorem MapV.block {w' : World} (h : MapV w E f B V) (hb : w'.heap[B]? = w.heap[B]?) : MapV w' E f B V := by
  obtain ⟨D, ⟨es, clock, h0, h1⟩, h2⟩ := h
  exact ⟨D, ⟨es, clock, hb.trans h0, h1⟩, h2⟩
theorem MapV.gr {w' : World} (h : MapV w E f B V) (hg : Gr w w') : MapV w' E f B V := h.block (hg.below.block B h.has)
theorem MapV.made (w : World) (E : TypeId) (f : β → Lit) : MapV (w.alloc (.map #[] 0)) E f w.heap.size ([] : List (Int × β)) :=
  ⟨.map [], World.ownsMap_made _ _ _ _, fun k => rfl, fun k x z h => by cases h⟩
theorem MapV.stored {w' : World} {D : DataW Unit} {k : Int} {x : β} (h2 : ∀ k, Maps.has D (.int .i64 k) = (look V k).isSome) (h3 : ∀ k x z, look V k = some x → D.atKey (.int .i64 k) z = .lit (f x)) (hn : look V k = none) (hi : IsMap D)
    (h : w'.ownsMap Tryz.prog 3 (plainElem Tryz.prog E) B (V.length + 1) (D.put (.int .i64 k) (.lit (f x)))) : MapV w' E f B (V ++ [(k, x)]) := by
  have hkey : WideAt.IsKeyLit (.int .i64 k) := by simp [WideAt.IsKeyLit]
  refine ⟨_, by simpa using h, fun j => ?_, fun j y z hj => ?_⟩
  · rw [look_snoc]
    by_cases e : k = j
    · subst e; rw [has_put_same hi hkey, hn]; simp
    · rw [has_put_other (by simpa using fun q : j = k => e q.symm), h2 j]
      split <;> simp_all
  · rw [look_snoc] at hj
    by_cases e : k = j
    · subst e
      rw [hn] at hj
      simp at hj
      subst hj
      exact atKey_put_same hi hkey _ _
    · rw [atKey_put_other (by simpa using fun q : j = k => e q.symm)]
      simp [e] at hj
      exact h3 j y z hj.2
end
/-! At the operation, in a list and in a region that draws. -/
section
variable (w : World) {ops : Array Oper} {rest : List Oper} {o : Oper} {a : Act} {Q : Exit → Act → World → Prop}
end
end Go.Proofs.YtenehghpmnajpaaGreatDoor
/-! A queue: a slice of one-cell elements that begins within a row of the call's own; appending one element; leaving off the first. -/
set_option linter.unusedVariables false
set_option linter.unusedSimpArgs false
namespace Go.Proofs.YtenehghpmnajpaaGreatDoor
open Go.RowKit
/-- The value v is a slice of the elements xs within a row from block base on. -/
def QAt (w : World) (base T : Nat) (v : Value) (xs : List Value) : Prop :=
  ∃ g off cap arr, v = .slice (some ⟨g, off, none⟩) xs.length cap ∧ base ≤ g ∧ Row w g T arr ∧ xs.length ≤ cap ∧ cap ≤ maxLen ∧ off + cap ≤ arr.length ∧ ∀ (j : Nat) u, xs[j]? = some u → arr[off + j]? = some u
theorem QAt.kept {w w' : World} {base T : Nat} {v : Value} {xs : List Value} {row : Option Nat} (h : QAt w base T v xs) (hg : w.grownBy w' row) (hne : v.ownBlock ≠ row) : QAt w' base T v xs := by
  obtain ⟨g, off, cap, arr, rfl, hb, hr, h1⟩ := h
  exact ⟨g, off, cap, arr, rfl, hb, hr.grown hg (by simpa [Value.ownBlock] using hne), h1⟩
theorem QAt.block {w w' : World} {base T g : Nat} {v : Value} {xs : List Value} (h : QAt w base T v xs) (hv : v.ownBlock = some g) (hb : w'.heap[g]? = w.heap[g]?) : QAt w' base T v xs := by
  obtain ⟨g', off, cap, arr, rfl, hb', hr, h1⟩ := h
  have : g' = g := by simpa [Value.ownBlock] using hv
  subst this
  exact ⟨g', off, cap, arr, rfl, hb', by unfold Row at hr ⊢; rw [hb]; exact hr, h1⟩
theorem QAt.own {w : World} {base T : Nat} {v : Value} {xs : List Value} (h : QAt w base T v xs) : ∃ g, v.ownBlock = some g ∧ base ≤ g ∧ Has w g := by
  obtain ⟨g, off, cap, arr, rfl, hb, hr, _⟩ := h
  exact ⟨g, rfl, hb, hr.has⟩
theorem QAt.head {w : World} {base T : Nat} {v x : Value} {xs : List Value} (h : QAt w base T v (x :: xs)) : ∃ g off cap, v = .slice (some ⟨g, off, none⟩) (xs.length + 1) cap ∧ w.cell? ⟨g, off, none⟩ = some x ∧ xs.length + 1 ≤ cap ∧ cap ≤ maxLen ∧ base ≤ g ∧ (∀ W, QAt W base T v (x :: xs) → QAt W base T (.slice (some ⟨g, off + 1, none⟩) xs.length (cap - 1)) xs) := by
  obtain ⟨g, off, cap, arr, rfl, hb, hr, h1, h2, h3, h4⟩ := h
  have h0 := h4 0 x rfl
  simp only [List.length_cons] at h1
  refine ⟨g, off, cap, rfl, ?_, h1, h2, hb, fun W hW => ?_⟩
  · obtain ⟨hlt, e⟩ := List.getElem?_eq_some_iff.1 h0
    rw [hr.cell off hlt]; exact congrArg some e
  · obtain ⟨g', off', cap', arr', e, hb', hr', h1', h2', h3', h4'⟩ := hW
    simp only [Value.slice.injEq, Option.some.injEq, Addr.mk.injEq] at e
    obtain ⟨⟨rfl, rfl, _⟩, _, rfl⟩ := e
    refine ⟨g, off + 1, cap - 1, arr', rfl, hb', hr', by omega, by omega, by omega, fun j u hj => ?_⟩
    have := h4' (j + 1) u hj
    rwa [show off + 1 + j = off + (j + 1) by omega]
section
variable {P : Program} (w : World)
end
end Go.Proofs.YtenehghpmnajpaaGreatDoor

/-! What calm is; contract of the search of retune.calm over the limits. -/
set_option linter.unusedVariables false
set_option linter.unusedSimpArgs false
namespace Go.Proofs.YtenehghpmnajpaaGreatDoor
open Go.RowKit
open Classical
def okIn (r : Rt) (lo hi : Int) : Bool := match r with | some (n, d) => withinB n d lo hi | none => false
def ownOk (r : Rt) (c : Clk) : Bool := match r with | some (n, d) => c.high == 0 || withinB n d c.low c.high | none => true
def rtAt (R : List Rt) (i : Nat) : Rt := R.getD i none
/-- No clock is faster than it may be, or stands still though it is watched. -/
def CalmR (R : List Rt) (l : List Clk) (ms : List Lmt) : Prop := (∀ i (h : i < l.length), ownOk (rtAt R i) l[i] = true) ∧ ∀ j (h : j < ms.length), okIn (rtAt R ms[j].clock.toNat) 0 ms[j].high = true
noncomputable def calS (l : List Clk) (ms : List Lmt) (s : List Int) : Bool := decide (CalmR (rts l s) l ms)
def RtsGood (R : List Rt) : Prop := ∀ j (h : j < R.length), ∀ n d, R[j] = some (n, d) → validB n d = true ∧ 1 ≤ n
theorem rts_good {l : List Clk} {s : List Int} (hc : cchk l = 0) (hs : SetOk l s) : RtsGood (rts l s) := by
  obtain ⟨_, ok, _, fs⟩ := cchk_zero hc
  have h := rts_ok_take ok fs hs l.length (Nat.le_refl _)
  rw [List.take_length, List.take_of_length_le (by rw [hs.1]; exact Nat.le_refl _)] at h
  intro j hj n d e
  obtain ⟨h1, h2, _⟩ := h j hj n d e
  exact ⟨h1, h2⟩
end Go.Proofs.YtenehghpmnajpaaGreatDoor
/-! Contract of retune.calm. -/
set_option linter.unusedVariables false
set_option linter.unusedSimpArgs false
namespace Go.Proofs.YtenehghpmnajpaaGreatDoor
open Go.RowKit
open Classical
end Go.Proofs.YtenehghpmnajpaaGreatDoor
/-! Plain: clocks whose limits are struck. No program in sight. -/
set_option linter.unusedVariables false
set_option linter.unusedSimpArgs false
namespace Go.Proofs.YtenehghpmnajpaaGreatDoor
open Classical
end Go.Proofs.YtenehghpmnajpaaGreatDoor
/-! Contracts of the number of a setting, and of the setting with a number. -/
set_option linter.unusedVariables false
set_option linter.unusedSimpArgs false
namespace Go.Proofs.YtenehghpmnajpaaGreatDoor
open Go.RowKit
open Classical
end Go.Proofs.YtenehghpmnajpaaGreatDoor

/-! Clocks in rows of the call's own whose limits are struck. -/
set_option linter.unusedVariables false
set_option linter.unusedSimpArgs false
namespace Go.Proofs.YtenehghpmnajpaaGreatDoor
open Go.RowKit
open Classical
/-- A cell of an own row is written. -/
theorem owns_put {w : World} {base e size n g cap j : Nat} {xs : List Value} (h : w.ownsRow base e size (.slice (some ⟨g, 0, none⟩) n cap) n xs) (hj : j < n * size) (v : Value) : (w.setCell ⟨g, j, none⟩ v).ownsRow base e size (.slice (some ⟨g, 0, none⟩) n cap) n (xs.set j v) := by
  obtain ⟨h0, ⟨e1, _⟩ | ⟨g', cap', cur, e1, hb, hg, hn, hm, hs, ht⟩⟩ := h
  · cases e1
  · simp only [Value.slice.injEq, Option.some.injEq, Addr.mk.injEq, and_true, true_and] at e1
    obtain ⟨rfl, rfl⟩ := e1
    have hr : Row w g e cur.toList := hg
    have hr2 := hr.set j v
    refine ⟨by simpa using h0, .inr ⟨g, cap, (cur.toList.set j v).toArray, rfl, hb, hr2, hn, hm, by simpa using hs, ?_⟩⟩
    rw [← ht]
    simp only []
    rw [List.take_set]
theorem Mv.gr_low {w w1 w2 : World} {b len : Nat} (h : Gr w w1) (hb : w.heap.size ≤ b) (m : Mv b len w1 w2) : Gr w w2 := by
  obtain ⟨p, h0, h1, hg⟩ := m
  exact (h.setc hb).trans hg
theorem owns_slI {w : World} {base n : Nat} {v : Value} {xs : List Int} (h : w.ownsRow base 3 1 v n (nums xs)) (hw : ∀ k (hk : k < xs.length), Wide xs[k]) : ∃ a c, v = .slice a n c ∧ SlOf 1 RI w a xs := by
  obtain ⟨a, c, e, _, ho⟩ := owns_own1 h
  exact ⟨a, c, e, ho.slI hw⟩
end Go.Proofs.YtenehghpmnajpaaGreatDoor
/-! What the listed variable gives: the rate of a clock that does not run. -/
set_option linter.unusedVariables false
set_option linter.unusedSimpArgs false
namespace Go.Proofs.YtenehghpmnajpaaGreatDoor
open Go.RowKit
theorem two_of {α β : Type} {xs : List α} {f : α → β} {a b : β} (h : xs.map f = [a, b]) : ∃ y0 y1, xs = [y0, y1] ∧ f y0 = a ∧ f y1 = b := by
  rcases xs with _ | ⟨y0, _ | ⟨y1, _ | ⟨y2, xs⟩⟩⟩ <;> simp at h
  exact ⟨y0, y1, rfl, h.1, h.2⟩
theorem two_len {α : Type} {xs : List α} (h : xs.length = 2) : ∃ y0 y1, xs = [y0, y1] := by
  rcases xs with _ | ⟨y0, _ | ⟨y1, _ | ⟨y2, xs⟩⟩⟩ <;> simp at h
  exact ⟨y0, y1, rfl⟩
theorem off_of_laid {W : World} {rest : List (String × DataW Unit)} (h : laidMet Tryz.prog (("bringup/clock.off", .agg [.lit (.int .i64 0), .lit (.int .i64 1)]) :: rest) W) : OffV W := by
  obtain ⟨ps, ⟨g', t', cs, fuel, p, q, hg', ht', hvar, hd, _, _⟩, _⟩ := h
  have hg : Tryz.prog.globalNamed "bringup/clock.off" = some 0 := by kernel_rfl
  have hty : (Tryz.prog.globals[0]?).map (·.type) = some 93 := by kernel_rfl
  obtain rfl := Option.some.inj (hg.symm.trans hg')
  obtain rfl := Option.some.inj (hty.symm.trans ht')
  have hu : Tryz.prog.underlying 93 = some (.struct (Tryz.prog.fieldsOf 93)) := by kernel_rfl
  have f0 : ((Tryz.prog.fieldsOf 93)[0]?).map (fun f => (f.type, f.offset)) = some (3, 0) := by kernel_rfl
  have f1 : ((Tryz.prog.fieldsOf 93)[1]?).map (fun f => (f.type, f.offset)) = some (3, 1) := by kernel_rfl
  have hc : Tryz.prog.cellsOf 93 = 2 := by kernel_rfl
  have hci : Tryz.prog.cellsOf 3 = 1 := by kernel_rfl
  obtain ⟨xs, n, _, hx, hl, _, hf⟩ := DataW.trod_struct hu hd
  have hxs : xs.map (·.1) = [.lit (.int .i64 0), .lit (.int .i64 1)] := by
    have := congrArg Prod.fst hx
    exact (DataW.agg.inj this).symm
  obtain ⟨y0, y1, rfl, hx0, hx1⟩ := two_of hxs
  rw [hc] at hl
  obtain ⟨c0, c1, hcs⟩ := two_len hl
  have key : ∀ (i : Nat), ((Tryz.prog.fieldsOf 93)[i]?).map (fun f => (f.type, f.offset)) = some (3, i) → ∀ y, [y0, y1][i]? = some y → ∃ m, (cs.toList.drop i).take 1 = [.int .i64 m] ∧ y.1 = .lit (.int .i64 m) := by
    intro i hi y hy
    cases e : (Tryz.prog.fieldsOf 93)[i]? with
    | none => rw [e] at hi; cases hi
    | some f =>
      rw [e] at hi
      simp only [Option.map_some, Option.some.injEq, Prod.mk.injEq] at hi
      have := hf i f e
      rw [hi.1, hi.2, hci, hy] at this
      obtain ⟨m, q1, q2, _⟩ := DataW.trod_int Tryz.underlying3 this
      exact ⟨m, q1, by rw [q2]⟩
  obtain ⟨m0, a0, b0⟩ := key 0 f0 y0 rfl
  obtain ⟨m1, a1, b1⟩ := key 1 f1 y1 rfl
  rw [hcs] at a0 a1
  simp at a0 a1
  rw [hx0] at b0
  rw [hx1] at b1
  simp at b0 b1
  subst b0 b1 a0 a1
  have g0 := World.var?_cell hg hvar 0
  have g1 := World.var?_cell hg hvar 1
  have hz : ∀ i : Nat, cs[i]? = cs.toList[i]? := fun i => by simp
  rw [hz, hcs] at g0 g1
  exact ⟨by simpa using g0, by simpa using g1⟩
end Go.Proofs.YtenehghpmnajpaaGreatDoor
/-! Plain: the example of the chapter. No program in sight. -/
set_option linter.unusedVariables false
set_option linter.unusedSectionVars false
set_option linter.unusedSimpArgs false
namespace Go.Proofs.YtenehghpmnajpaaGreatDoor
open Classical
section
variable {cal : List Int → Bool} (h1 : cal [0, 0, 0] = true) (h2 : cal [0, 0, 1] = true) (h3 : cal [0, 1, 0] = false) (h4 : cal [0, 1, 1] = true)
include h1 h2 h3 h4
end
theorem tN_of {n d k : Int} (h : ¬ tmBig n d k) (ho : okFac n d k = true) : tN n d k = newN (n * (k / Int.gcd k d)) (d / Int.gcd k d) ∧ tD n d k = newD (n * (k / Int.gcd k d)) (d / Int.gcd k d) := by
  rw [tN, tD, if_pos ho, if_pos ho, tmN, tmD, if_neg h, if_neg h]; exact ⟨rfl, rfl⟩
end Go.Proofs.YtenehghpmnajpaaGreatDoor
/-! A new row, its block named. -/
set_option linter.unusedVariables false
set_option linter.unusedSimpArgs false
namespace Go.Proofs.YtenehghpmnajpaaGreatDoor
open Go.RowKit
theorem row_new' (w : World) (arr : Array Value) (T B : Nat) (hB : B = w.heap.size) : Row (w.alloc (.cells arr T)) B T arr.toList := by subst hB; exact Row.new w arr T
end Go.Proofs.YtenehghpmnajpaaGreatDoor

/-! Contract of space.calm: whether the setting with a number is calm, and what is known then. -/
set_option linter.unusedVariables false
set_option linter.unusedSimpArgs false
namespace Go.Proofs.YtenehghpmnajpaaGreatDoor
open Go.RowKit
open Classical
/-- What does not turn: right clocks, right limits, the variable off. -/
structure Env (w : World) (l : List Clk) (ms : List Lmt) (al am : Option Addr) : Prop where
  clks : SlOf 5 RClk w al l
  lmts : SlOf 3 RLmt w am ms
  off : OffV w
  chk : cchk l = 0
  lims : ms.length ≤ 32 ∧ ∀ j (h : j < ms.length), LmtOk l ms[j]
theorem Env.gr {w w' : World} {l : List Clk} {ms : List Lmt} {al am : Option Addr} (h : Env w l ms al am) (hg : Gr w w') : Env w' l ms al am :=
  ⟨clks_gr h.clks hg, lmts_gr h.lmts hg, h.off.gr hg, h.chk, h.lims⟩
/-- Block BK is a map of which settings are calm, right as far as it goes. -/
def Kn (w : World) (BK : Nat) (l : List Clk) (cal : List Int → Bool) : Prop :=
  ∃ V : List (List Int × Bool), MapB w BK (V.map fun q => (num l q.1, q.2)) ∧ (V.map (·.1)).Nodup ∧ ∀ q ∈ V, SetOk l q.1 ∧ q.2 = cal q.1
theorem Kn.has {w : World} {BK : Nat} {l : List Clk} {cal : List Int → Bool} (h : Kn w BK l cal) : Has w BK := h.elim fun _ h => h.1.has
theorem Kn.kept {w w' : World} {BK : Nat} {l : List Clk} {cal : List Int → Bool} {row : Option Nat} (h : Kn w BK l cal) (hg : w.grownBy w' row) (hne : some BK ≠ row) : Kn w' BK l cal :=
  h.elim fun V h => ⟨V, h.1.kept hg hne, h.2⟩
theorem Kn.gr {w w' : World} {BK : Nat} {l : List Clk} {cal : List Int → Bool} (h : Kn w BK l cal) (hg : Gr w w') : Kn w' BK l cal := h.elim fun V h => ⟨V, h.1.gr hg, h.2⟩
theorem Kn.block {w w' : World} {BK : Nat} {l : List Clk} {cal : List Int → Bool} (h : Kn w BK l cal) (hb : w'.heap[BK]? = w.heap[BK]?) : Kn w' BK l cal := h.elim fun V h => ⟨V, h.1.block hb, h.2⟩
theorem Gr.by {w w' : World} (h : Gr w w') (row : Option Nat) : w.grownBy w' row := by
  have hb := h.below
  exact ⟨hb.os, hb.tape, hb.output, hb.size, fun k hk _ => hb.block k hk⟩
theorem setOk_wide {l : List Clk} {s : List Int} (hc : cchk l = 0) (hs : SetOk l s) : ∀ k (hk : k < s.length), Wide s[k] := fun k hk => by
  obtain ⟨nb, _, _, _⟩ := cchk_zero hc
  have hl := hs.1
  have h1 := hs.2 k (by omega) hk
  have h2 := small_at nb (k := k) (by omega)
  unfold Wide; omega
end Go.Proofs.YtenehghpmnajpaaGreatDoor
/-! A statement of space.calm by an invariant (printed by wip/tools/sp.py). -/
set_option linter.unusedVariables false
set_option linter.unusedSimpArgs false
namespace Go.Proofs.YtenehghpmnajpaaGreatDoor
open Go.RowKit
open Classical
end Go.Proofs.YtenehghpmnajpaaGreatDoor
/-! Contract of space.calm: whether the setting with a number is calm, and what is known then. -/
set_option linter.unusedVariables false
set_option linter.unusedSimpArgs false
namespace Go.Proofs.YtenehghpmnajpaaGreatDoor
open Go.RowKit
open Classical
end Go.Proofs.YtenehghpmnajpaaGreatDoor
/-! What holds in the loops of space.each, whatever function it calls. -/
set_option linter.unusedVariables false
set_option linter.unusedSimpArgs false
namespace Go.Proofs.YtenehghpmnajpaaGreatDoor
open Go.RowKit
open Classical
/-- How a state lies in a world, away from some blocks. -/
abbrev Lies (σ : Type) := σ → World → List Nat → Prop
structure LiesOk {σ : Type} (I : Lies σ) : Prop where
  keep : ∀ st w w' L row, I st w L → w.grownBy w' row → (∀ b, row = some b → b ∈ L) → I st w' L
  sub : ∀ st w L L', I st w L → (∀ b ∈ L', b ∈ L) → I st w L'
/-- What the loops keep. -/
structure EI {σ : Type} (I : Lies σ) (w0 w : World) (l : List Clk) (ms : List Lmt) (al am : Option Addr) (cl cm BK XB SB : Nat) (L0 : List Nat) (st : σ) (wr : World) (u : List Int) : Prop where
  row : Row wr SB 3 (nums u)
  box : Row wr XB 127 [.slice al l.length cl, .slice am ms.length cm, .map (some BK)]
  kn : Kn wr BK l (calS l ms)
  st : I st wr (XB :: SB :: L0)
  gr : Gr w0 wr
  keep : ∀ b ∈ L0, b ≠ BK → wr.heap[b]? = w.heap[b]?
  size : w.heap.size ≤ wr.heap.size
section
variable {σ : Type} {I : Lies σ} {w0 w : World} {l : List Clk} {ms : List Lmt} {al am : Option Addr} {cl cm BK XB SB : Nat} {L0 : List Nat} {st : σ} {wr : World} {u : List Int}
theorem EI.grow {w' : World} (h : EI I w0 w l ms al am cl cm BK XB SB L0 st wr u) (hI : LiesOk I) (hL : ∀ b ∈ L0, Has w b) (hg : Gr wr w') : EI I w0 w l ms al am cl cm BK XB SB L0 st w' u where
  row := h.row.gr hg
  box := h.box.gr hg
  kn := h.kn.gr hg
  st := hI.keep _ _ _ _ none h.st (hg.by none) (fun b e => by cases e)
  gr := h.gr.trans hg
  keep := fun b hb hne => (hg.below.block b (Nat.lt_of_lt_of_le (hL b hb) h.size)).trans (h.keep b hb hne)
  size := Nat.le_trans h.size hg.size
theorem EI.set (h : EI I w0 w l ms al am cl cm BK XB SB L0 st wr u) (hI : LiesOk I) (hL : ∀ b ∈ L0, Has w b) (hs : w.heap.size ≤ SB) (hx : XB ≠ SB) (h0 : w0.heap.size ≤ SB) (hBK : BK ∈ L0) (i : Nat) (x : Int) :
    EI I w0 w l ms al am cl cm BK XB SB L0 st (wr.setCell ⟨SB, i, none⟩ (.int .i64 x)) (u.set i x) where
  row := h.row.iset i x
  box := h.box.oth (Ne.symm hx)
  kn := h.kn.kept (grownBy_set wr SB i _) (by have := hL BK hBK; unfold Has at this; intro e; injection e with e; omega)
  st := hI.keep _ _ _ _ _ h.st (grownBy_set wr SB i _) (fun b e => by injection e with e; subst e; simp)
  gr := h.gr.setc h0
  keep := fun b hb hne => ((grownBy_set wr SB i (.int .i64 x)).block b (Nat.lt_of_lt_of_le (hL b hb) h.size) (by have := hL b hb; unfold Has at this; intro e; injection e with e; omega)).trans (h.keep b hb hne)
  size := Nat.le_trans h.size (grownBy_set wr SB i (.int .i64 x)).size
theorem EI.known {w' : World} (h : EI I w0 w l ms al am cl cm BK XB SB L0 st wr u) (hI : LiesOk I) (hL : ∀ b ∈ L0, Has w b) (hs : w.heap.size ≤ SB) (hX : w.heap.size ≤ XB) (h0 : w0.heap.size ≤ BK) (hBK : BK ∈ L0) (hg : wr.grownBy w' (some BK)) (hk : Kn w' BK l (calS l ms)) :
    EI I w0 w l ms al am cl cm BK XB SB L0 st w' u where
  row := h.row.grown hg (by have := hL BK hBK; unfold Has at this; intro e; injection e with e; omega)
  box := h.box.grown hg (by have := hL BK hBK; unfold Has at this; intro e; injection e with e; omega)
  kn := hk
  st := hI.keep _ _ _ _ _ h.st hg (fun b e => by injection e with e; subst e; simp [hBK])
  gr := h.gr.grown hg (fun k e => by injection e with e; omega)
  keep := fun b hb hne => (hg.block b (Nat.lt_of_lt_of_le (hL b hb) h.size) (fun e => hne (by injection e))).trans (h.keep b hb hne)
  size := Nat.le_trans h.size hg.size
theorem EI.call {w' : World} {st' : σ} (h : EI I w0 w l ms al am cl cm BK XB SB L0 st wr u) (hI : LiesOk I) (hBK : BK ∈ L0) (h1 : I st' w' (XB :: SB :: L0)) (h2 : Gr w0 w') (h3 : ∀ b ∈ XB :: SB :: L0, w'.heap[b]? = wr.heap[b]?) (h4 : wr.heap.size ≤ w'.heap.size) :
    EI I w0 w l ms al am cl cm BK XB SB L0 st' w' u where
  row := by have := h.row; unfold Row at this ⊢; rw [h3 SB (by simp)]; exact this
  box := by have := h.box; unfold Row at this ⊢; rw [h3 XB (by simp)]; exact this
  kn := h.kn.block (h3 BK (by simp [hBK]))
  st := h1
  gr := h2
  keep := fun b hb hne => (h3 b (by simp [hb])).trans (h.keep b hb hne)
  size := Nat.le_trans h.size h4
theorem EI.hasL (h : EI I w0 w l ms al am cl cm BK XB SB L0 st wr u) (hL : ∀ b ∈ L0, Has w b) : ∀ b ∈ XB :: SB :: L0, Has wr b := by
  intro b hb
  rcases List.mem_cons.1 hb with e | hb
  · subst e; exact h.box.has
  · rcases List.mem_cons.1 hb with e | hb
    · subst e; exact h.row.has
    · exact Nat.lt_of_lt_of_le (hL b hb) h.size
end
end Go.Proofs.YtenehghpmnajpaaGreatDoor

/- The distances and circles of a graph in plain lists. -/
import Derived.Test.YtdjhnfopdlgliaaTeY
set_option linter.unusedVariables false
set_option linter.unusedSimpArgs false
namespace Go.Proofs.Ytdjhnfopdlgliaa
open Go.RowKit

def stepV (tt : Nat) (out : List Nat) (y : Int) : Nat := if y = (tt : Int) then 1 else if (tt : Int) < y ∧ 0 < out.getD y.toNat 0 then out.getD y.toNat 0 + 1 else 0
def relax (tt x : Nat) (s : List Nat × Bool) (y : Int) : List Nat × Bool :=
  if 0 < stepV tt s.1 y ∧ (s.1.getD x 0 = 0 ∨ stepV tt s.1 y < s.1.getD x 0) then (s.1.set x (stepV tt s.1 y), true) else s
def passX (gs : List (List Int)) (tt : Nat) (s : List Nat × Bool) (x : Nat) : List Nat × Bool := (gs.getD x []).foldl (relax tt x) s
def passD (gs : List (List Int)) (tt : Nat) (s : List Nat × Bool) : List Nat × Bool := (List.range' tt (gs.length - tt)).foldl (passX gs tt) s
def distF (gs : List (List Int)) (tt : Nat) : Nat → List Nat → List Nat
  | 0, out => out
  | f + 1, out => if (passD gs tt (out, false)).2 = true then distF gs tt f (passD gs tt (out, false)).1 else (passD gs tt (out, false)).1
def distT (gs : List (List Int)) (tt : Nat) : List Nat := distF gs tt ((gs.length + 1) * gs.length + 1) (List.replicate gs.length 0)

/-! The measure. -/
def wt (N o : Nat) : Nat := if o = 0 then N + 1 else o
def ms (N : Nat) : List Nat → Nat
  | [] => 0
  | o :: l => wt N o + ms N l
def cnt : List Nat → Nat
  | [] => 0
  | o :: l => (if o = 0 then 0 else 1) + cnt l
theorem cnt_le : ∀ l : List Nat, cnt l ≤ l.length
  | [] => Nat.le_refl _
  | o :: l => by have := cnt_le l; simp only [cnt, List.length_cons]; split <;> omega
theorem ms_set (N : Nat) : ∀ (l : List Nat) (x n : Nat) (h : x < l.length), ms N (l.set x n) + wt N l[x] = ms N l + wt N n
  | o :: l, 0, n, _ => by simp only [List.set_cons_zero, ms, List.getElem_cons_zero]; omega
  | o :: l, x + 1, n, h => by
    have := ms_set N l x n (by simpa using h)
    simp only [List.set_cons_succ, ms, List.getElem_cons_succ]; omega
theorem cnt_set : ∀ (l : List Nat) (x n : Nat) (h : x < l.length), cnt (l.set x n) + (if l[x] = 0 then 0 else 1) = cnt l + (if n = 0 then 0 else 1)
  | o :: l, 0, n, _ => by simp only [List.set_cons_zero, cnt, List.getElem_cons_zero]; omega
  | o :: l, x + 1, n, h => by
    have := cnt_set l x n (by simpa using h)
    simp only [List.set_cons_succ, cnt, List.getElem_cons_succ]; omega
theorem ms_rep (N : Nat) : ∀ k, ms N (List.replicate k 0) = k * (N + 1)
  | 0 => by simp [ms]
  | k + 1 => by rw [List.replicate_succ, ms, ms_rep N k, Nat.add_mul, Nat.one_mul]; simp [wt]; omega
theorem cnt_lt : ∀ (l : List Nat) (x : Nat) (h : x < l.length), l[x] = 0 → cnt l < l.length
  | o :: l, 0, _, e => by have := cnt_le l; simp only [List.getElem_cons_zero] at e; simp only [cnt, List.length_cons, e, if_true]; omega
  | o :: l, x + 1, h, e => by
    have := cnt_lt l x (by simpa using h) (by simpa using e)
    simp only [cnt, List.length_cons]; split <;> omega
theorem getD_lt {l : List Nat} {x : Nat} (h : x < l.length) : l.getD x 0 = l[x] := by rw [List.getD_eq_getElem?_getD, List.getElem?_eq_getElem h]; rfl
theorem getD_set_self' {l : List Nat} {x n : Nat} (h : x < l.length) : (l.set x n).getD x 0 = n := by rw [getD_lt (by rw [List.length_set]; exact h), List.getElem_set_self]
theorem getD_set_other {l : List Nat} {x y n : Nat} (h : x ≠ y) : (l.set x n).getD y 0 = l.getD y 0 := by rw [List.getD_eq_getElem?_getD, List.getD_eq_getElem?_getD, List.getElem?_set_ne h]
/-- What holds of distances under way. -/
structure DOk (gs : List (List Int)) (tt : Nat) (out : List Nat) : Prop where
  len : out.length = gs.length
  le : ∀ x, out.getD x 0 ≤ cnt out
  sup : ∀ x, 1 < out.getD x 0 → ∃ y : Nat, (y : Int) ∈ gs.getD x [] ∧ tt < y ∧ 0 < out.getD y 0 ∧ out.getD y 0 < out.getD x 0
theorem DOk.max {gs : List (List Int)} {tt : Nat} {out : List Nat} (h : DOk gs tt out) (x : Nat) : out.getD x 0 ≤ gs.length := by
  have h1 := h.le x
  have h2 := cnt_le out
  have h3 := h.len
  omega
theorem DOk.start (gs : List (List Int)) (tt : Nat) : DOk gs tt (List.replicate gs.length 0) := by
  have e : ∀ x, (List.replicate gs.length 0).getD x 0 = 0 := fun x => by
    rw [List.getD_eq_getElem?_getD, List.getElem?_replicate]; split <;> rfl
  exact ⟨by simp, fun x => by rw [e]; exact Nat.zero_le _, fun x h => by rw [e] at h; omega⟩
theorem stepV_le {gs : List (List Int)} {tt : Nat} {out : List Nat} (h : DOk gs tt out) (y : Int) : stepV tt out y ≤ cnt out + 1 := by
  unfold stepV
  split
  · omega
  · split
    · have := h.le y.toNat; omega
    · omega
theorem relax_ok {gs : List (List Int)} {tt x : Nat} {s : List Nat × Bool} {y : Int} (h : DOk gs tt s.1) (hy : y ∈ gs.getD x []) (hx : x < gs.length) :
    DOk gs tt (relax tt x s y).1 ∧ ms gs.length (relax tt x s y).1 ≤ ms gs.length s.1 ∧ ((relax tt x s y).2 = s.2 ∧ (relax tt x s y).1 = s.1 ∨ (relax tt x s y).2 = true ∧ ms gs.length (relax tt x s y).1 < ms gs.length s.1) := by
  unfold relax
  split
  case isFalse => exact ⟨h, Nat.le_refl _, .inl ⟨rfl, rfl⟩⟩
  case isTrue hc =>
    obtain ⟨hn, ho⟩ := hc
    have hle := stepV_le h y
    obtain ⟨n, hnn⟩ : ∃ n, stepV tt s.1 y = n := ⟨_, rfl⟩
    rw [hnn] at hn ho hle ⊢
    have hxl : x < s.1.length := by rw [h.len]; exact hx
    have hm := ms_set gs.length s.1 x n hxl
    have hcs := cnt_set s.1 x n hxl
    have hlx := h.le x
    rw [getD_lt hxl] at ho hlx
    rw [if_neg (show ¬ n = 0 by omega)] at hcs
    have hlen := h.len
    have hcl := cnt_le s.1
    have hlt : ms gs.length (s.1.set x n) < ms gs.length s.1 := by
      unfold wt at hm
      rw [if_neg (show ¬ n = 0 by omega)] at hm
      rcases ho with e | e
      · have := cnt_lt s.1 x hxl e
        rw [if_pos e] at hm
        omega
      · rw [if_neg (show ¬ s.1[x] = 0 by omega)] at hm
        omega
    refine ⟨⟨by rw [List.length_set]; exact h.len, fun z => ?_, fun z hz => ?_⟩, Nat.le_of_lt hlt, .inr ⟨rfl, hlt⟩⟩
    · show (s.1.set x n).getD z 0 ≤ cnt (s.1.set x n)
      by_cases e : x = z
      · subst e
        rw [getD_set_self' hxl]
        rcases ho with e2 | e2
        · rw [if_pos e2] at hcs; omega
        · rw [if_neg (show ¬ s.1[x] = 0 by omega)] at hcs; omega
      · rw [getD_set_other e]
        have := h.le z
        rcases ho with e2 | e2
        · rw [if_pos e2] at hcs; omega
        · rw [if_neg (show ¬ s.1[x] = 0 by omega)] at hcs; omega
    · dsimp only at hz ⊢
      by_cases e : x = z
      · subst e
        rw [getD_set_self' hxl] at hz ⊢
        unfold stepV at hnn
        split at hnn
        · omega
        · split at hnn
          case isFalse => omega
          case isTrue q =>
            obtain ⟨q1, q2⟩ := q
            obtain ⟨v, rfl⟩ : ∃ v : Nat, y = v := ⟨y.toNat, by omega⟩
            rw [Int.toNat_natCast] at hnn q2
            have hvx : x ≠ v := by
              rintro rfl
              rw [getD_lt hxl] at hnn q2
              omega
            exact ⟨v, hy, by omega, by rw [getD_set_other hvx]; exact q2, by rw [getD_set_other hvx]; omega⟩
      · rw [getD_set_other e] at hz ⊢
        obtain ⟨v, h1, h2, h3, h4⟩ := h.sup z hz
        by_cases e2 : x = v
        · subst e2
          rw [getD_lt hxl] at h3 h4
          exact ⟨x, h1, h2, by rw [getD_set_self' hxl]; exact hn, by rw [getD_set_self' hxl]; omega⟩
        · exact ⟨v, h1, h2, by rw [getD_set_other e2]; exact h3, by rw [getD_set_other e2]; exact h4⟩
/-- Two states of a pass, the second one later. -/
structure DLe (gs : List (List Int)) (tt : Nat) (s t : List Nat × Bool) : Prop where
  ok : DOk gs tt t.1
  le : ms gs.length t.1 ≤ ms gs.length s.1
  ch : t.2 = s.2 ∧ t.1 = s.1 ∨ t.2 = true ∧ ms gs.length t.1 < ms gs.length s.1
theorem DLe.refl {gs : List (List Int)} {tt : Nat} {s : List Nat × Bool} (h : DOk gs tt s.1) : DLe gs tt s s := ⟨h, Nat.le_refl _, .inl ⟨rfl, rfl⟩⟩
theorem DLe.trans {gs : List (List Int)} {tt : Nat} {s t u : List Nat × Bool} (h : DLe gs tt s t) (k : DLe gs tt t u) : DLe gs tt s u := by
  refine ⟨k.ok, Nat.le_trans k.le h.le, ?_⟩
  rcases h.ch with ⟨a1, a2⟩ | ⟨a1, a2⟩
  · rcases k.ch with ⟨b1, b2⟩ | ⟨b1, b2⟩
    · exact .inl ⟨b1.trans a1, b2.trans a2⟩
    · exact .inr ⟨b1, by rw [a2] at b2; exact b2⟩
  · rcases k.ch with ⟨b1, b2⟩ | ⟨b1, b2⟩
    · exact .inr ⟨b1.trans a1, by rw [b2]; exact a2⟩
    · exact .inr ⟨b1, Nat.lt_trans b2 a2⟩
theorem fold_ok {gs : List (List Int)} {tt x : Nat} (hx : x < gs.length) : ∀ (ys : List Int) (s : List Nat × Bool), (∀ y ∈ ys, y ∈ gs.getD x []) → DOk gs tt s.1 → DLe gs tt s (ys.foldl (relax tt x) s)
  | [], s, _, h => DLe.refl h
  | y :: ys, s, hy, h => by
    have r := relax_ok (s := s) h (hy y (List.mem_cons_self ..)) hx
    exact DLe.trans ⟨r.1, r.2.1, r.2.2⟩ (fold_ok hx ys _ (fun z hz => hy z (List.mem_cons_of_mem _ hz)) r.1)
theorem passX_ok {gs : List (List Int)} {tt x : Nat} (hx : x < gs.length) (s : List Nat × Bool) (h : DOk gs tt s.1) : DLe gs tt s (passX gs tt s x) := fold_ok hx _ s (fun y hy => hy) h
theorem passL_ok {gs : List (List Int)} {tt : Nat} : ∀ (l : List Nat) (s : List Nat × Bool), (∀ x ∈ l, x < gs.length) → DOk gs tt s.1 → DLe gs tt s (l.foldl (passX gs tt) s)
  | [], s, _, h => DLe.refl h
  | x :: l, s, hx, h => by
    have r := passX_ok (hx x (List.mem_cons_self ..)) s h
    exact r.trans (passL_ok l _ (fun z hz => hx z (List.mem_cons_of_mem _ hz)) r.ok)
theorem passD_ok {gs : List (List Int)} {tt : Nat} (s : List Nat × Bool) (h : DOk gs tt s.1) : DLe gs tt s (passD gs tt s) :=
  passL_ok _ s (fun x hx => by have := List.mem_range'_1.1 hx; omega) h
/-! At the end nothing can be relaxed. -/
theorem relax_still {tt x : Nat} {out : List Nat} {y : Int} (h : (relax tt x (out, false) y).2 = false) : relax tt x (out, false) y = (out, false) ∧ ¬ (0 < stepV tt out y ∧ (out.getD x 0 = 0 ∨ stepV tt out y < out.getD x 0)) := by
  unfold relax at h ⊢
  split at h
  · cases h
  · rename_i q; exact ⟨by rw [if_neg q], q⟩
theorem fold_still {gs : List (List Int)} {tt x : Nat} (hx : x < gs.length) : ∀ (ys : List Int) (out : List Nat), (∀ y ∈ ys, y ∈ gs.getD x []) → DOk gs tt out → (ys.foldl (relax tt x) (out, false)).2 = false → ys.foldl (relax tt x) (out, false) = (out, false) ∧ ∀ y ∈ ys, ¬ (0 < stepV tt out y ∧ (out.getD x 0 = 0 ∨ stepV tt out y < out.getD x 0))
  | [], out, _, h, _ => ⟨rfl, fun y hy => by cases hy⟩
  | y :: ys, out, hy, h, he => by
    rw [List.foldl_cons] at he ⊢
    have r := relax_ok (s := (out, false)) (tt := tt) h (hy y (List.mem_cons_self ..)) hx
    have k := fold_ok hx ys (relax tt x (out, false) y) (fun z hz => hy z (List.mem_cons_of_mem _ hz)) r.1
    have h1 : (relax tt x (out, false) y).2 = false := by
      rcases k.ch with ⟨a, _⟩ | ⟨a, _⟩
      · rw [he] at a; exact a.symm
      · rw [he] at a; cases a
    obtain ⟨e, e2⟩ := relax_still h1
    rw [e] at he ⊢
    obtain ⟨f1, f2⟩ := fold_still hx ys out (fun z hz => hy z (List.mem_cons_of_mem _ hz)) h he
    exact ⟨f1, fun z hz => by rcases List.mem_cons.1 hz with rfl | q; exact e2; exact f2 z q⟩
theorem passL_still {gs : List (List Int)} {tt : Nat} : ∀ (l : List Nat) (out : List Nat), (∀ x ∈ l, x < gs.length) → DOk gs tt out → (l.foldl (passX gs tt) (out, false)).2 = false → l.foldl (passX gs tt) (out, false) = (out, false) ∧ ∀ x ∈ l, ∀ y ∈ gs.getD x [], ¬ (0 < stepV tt out y ∧ (out.getD x 0 = 0 ∨ stepV tt out y < out.getD x 0))
  | [], out, _, h, _ => ⟨rfl, fun y hy => by cases hy⟩
  | x :: l, out, hx, h, he => by
    rw [List.foldl_cons] at he ⊢
    have r := passX_ok (tt := tt) (hx x (List.mem_cons_self ..)) (out, false) h
    have k := passL_ok l (passX gs tt (out, false) x) (fun z hz => hx z (List.mem_cons_of_mem _ hz)) r.ok
    have h1 : (passX gs tt (out, false) x).2 = false := by
      rcases k.ch with ⟨a, _⟩ | ⟨a, _⟩
      · rw [he] at a; exact a.symm
      · rw [he] at a; cases a
    obtain ⟨e, e2⟩ := fold_still (tt := tt) (hx x (List.mem_cons_self ..)) (gs.getD x []) out (fun y hy => hy) h h1
    have e' : passX gs tt (out, false) x = (out, false) := e
    rw [e'] at he ⊢
    obtain ⟨f1, f2⟩ := passL_still l out (fun z hz => hx z (List.mem_cons_of_mem _ hz)) h he
    exact ⟨f1, fun z hz => by rcases List.mem_cons.1 hz with rfl | q; exact e2; exact f2 z q⟩
/-- Distances at the end. -/
structure DFin (gs : List (List Int)) (tt : Nat) (out : List Nat) : Prop where
  ok : DOk gs tt out
  fix : ∀ x, tt ≤ x → x < gs.length → ∀ y ∈ gs.getD x [], ¬ (0 < stepV tt out y ∧ (out.getD x 0 = 0 ∨ stepV tt out y < out.getD x 0))
theorem passD_fin {gs : List (List Int)} {tt : Nat} {out : List Nat} (h : DOk gs tt out) (he : (passD gs tt (out, false)).2 = false) : passD gs tt (out, false) = (out, false) ∧ DFin gs tt out := by
  obtain ⟨a, b⟩ := passL_still (List.range' tt (gs.length - tt)) out (fun x hx => by have := List.mem_range'_1.1 hx; omega) h he
  exact ⟨a, h, fun x h1 h2 => b x (List.mem_range'_1.2 ⟨h1, by omega⟩)⟩
theorem distF_fin {gs : List (List Int)} {tt : Nat} : ∀ (f : Nat) (out : List Nat), DOk gs tt out → ms gs.length out < f → DFin gs tt (distF gs tt f out)
  | 0, out, _, hf => by omega
  | f + 1, out, h, hf => by
    have k := passD_ok (out, false) h
    rw [distF]
    split
    · rename_i q
      refine distF_fin f _ k.ok ?_
      rcases k.ch with ⟨a, _⟩ | ⟨_, b⟩
      · rw [q] at a; cases a
      · have : ms gs.length (passD gs tt (out, false)).1 < ms gs.length out := b
        omega
    · rename_i q
      obtain ⟨a, b⟩ := passD_fin h (by simpa using q)
      rw [a]; exact b
theorem distT_fuel (gs : List (List Int)) (tt : Nat) : ms gs.length (List.replicate gs.length 0) < (gs.length + 1) * gs.length + 1 := by
  rw [ms_rep, Nat.mul_comm]; omega
theorem distT_fin (gs : List (List Int)) (tt : Nat) : DFin gs tt (distT gs tt) := distF_fin _ _ (DOk.start gs tt) (distT_fuel gs tt)
/-- The next node on the way back. -/
theorem DFin.next {gs : List (List Int)} {tt : Nat} {d : List Nat} (h : DFin gs tt d) {x : Nat} (h1 : tt ≤ x) (h2 : x < gs.length) (h3 : 1 < d.getD x 0) : ∃ y : Nat, (y : Int) ∈ gs.getD x [] ∧ tt < y ∧ d.getD y 0 + 1 = d.getD x 0 := by
  obtain ⟨y, hy, hty, hp, hl⟩ := h.ok.sup x h3
  refine ⟨y, hy, hty, ?_⟩
  have := h.fix x h1 h2 y hy
  have e : stepV tt d y = d.getD y 0 + 1 := by
    unfold stepV
    rw [if_neg (by omega), Int.toNat_natCast, if_pos ⟨by omega, hp⟩]
  rw [e] at this
  omega

/-! Circles. -/
def backB (d : List Nat) (first at' : Nat) (y : Int) : Bool := decide ((first : Int) < y) && decide (d.getD y.toNat 0 + 1 = d.getD at' 0)
def circF (gs : List (List Int)) (d : List Nat) (first : Nat) : Nat → Nat → List Int → List Int
  | 0, _, out => out
  | f + 1, at', out => if 1 < d.getD at' 0 then
      match (gs.getD at' []).find? (backB d first at') with
      | some y => circF gs d first f y.toNat (out ++ [y])
      | none => out
    else out
def circT (gs : List (List Int)) (first : Nat) : List Int :=
  if (distT gs first).getD first 0 = 0 then [] else circF gs (distT gs first) first gs.length first [(first : Int)]
def betterB (best c : List Int) : Bool := decide (0 < c.length) && (decide (best.length = 0) || decide (c.length < best.length))
def bestF (gs : List (List Int)) (best : List Int) (i : Nat) : List Int := if betterB best (circT gs i) = true then circT gs i else best
def bestT (gs : List (List Int)) : List Int := (List.range gs.length).foldl (bestF gs) []
def circleT (ts : Tr) (pn cn : St) : Except Int (List Int) :=
  match graphT ts pn cn with
  | .error e => .error e
  | .ok g => .ok (bestT g)
theorem find_back {gs : List (List Int)} {tt : Nat} {d : List Nat} (h : DFin gs tt d) {x : Nat} (h1 : tt ≤ x) (h2 : x < gs.length) (h3 : 1 < d.getD x 0) : ∃ y : Int, (gs.getD x []).find? (backB d tt x) = some y ∧ y ∈ gs.getD x [] ∧ (tt : Int) < y ∧ d.getD y.toNat 0 + 1 = d.getD x 0 := by
  obtain ⟨y, hy, hty, hp⟩ := h.next h1 h2 h3
  cases hz : (gs.getD x []).find? (backB d tt x) with
  | none =>
    have := List.find?_eq_none.1 hz y hy
    unfold backB at this
    rw [Int.toNat_natCast, decide_eq_true (show (tt : Int) < (y : Int) by omega), decide_eq_true hp] at this
    exact absurd rfl this
  | some z =>
    have q := List.find?_some hz
    simp [backB] at q
    exact ⟨z, rfl, List.mem_of_find?_eq_some hz, q.1, q.2⟩
end Go.Proofs.Ytdjhnfopdlgliaa

/- The loads of supplies, as the document defines them, and how a loop from the last supply to the first finds them. No program in sight. No conditions. -/
import Derived.Test.YtoenkcojfogmmaaSupA
set_option linter.unusedVariables false
set_option linter.unusedSimpArgs false
namespace Go.Proofs.Ytoenkcojfogmmaa

def sumR (h : Nat → Int) : Nat → Nat → Int
  | _, 0 => 0
  | n, k + 1 => h n + sumR h (n + 1) k
theorem sumR_congr {h g : Nat → Int} {k : Nat} : ∀ {n : Nat}, (∀ c, n ≤ c → c < n + k → h c = g c) → sumR h n k = sumR g n k := by
  induction k with
  | zero => intro n _; rfl
  | succ k ih =>
    intro n hc
    simp only [sumR]
    rw [hc n (Nat.le_refl _) (by omega), ih fun c h1 h2 => hc c (by omega) (by omega)]
theorem sumR_nonneg {h : Nat → Int} {k : Nat} : ∀ {n : Nat}, (∀ c, n ≤ c → c < n + k → 0 ≤ h c) → 0 ≤ sumR h n k := by
  induction k with
  | zero => intro n _; exact Int.le_refl _
  | succ k ih =>
    intro n hc
    simp only [sumR]
    have h1 := hc n (Nat.le_refl _) (by omega)
    have h2 := ih (n := n + 1) fun c h1 h2 => hc c (by omega) (by omega)
    omega
/-- The loads of the first m draws at supply i. -/
def ownTo (d : List Drw) (i : Nat) : Nat → Int
  | 0 => 0
  | m + 1 => ownTo d i m + (if h : m < d.length then (if d[m].supply = (i : Int) then d[m].load else 0) else 0)
def own (d : List Drw) (i : Nat) : Int := ownTo d i d.length
def parentAt (l : List Sup) (c : Nat) : Int := if h : c < l.length then l[c].parent else -1
theorem parentAt_eq {l : List Sup} {c : Nat} (h : c < l.length) : parentAt l c = l[c].parent := by simp [parentAt, h]
def ldF (l : List Sup) (d : List Drw) : Nat → Nat → Int
  | 0, _ => 0
  | f + 1, i => own d i + sumR (fun c => if parentAt l c = (i : Int) then ldF l d f c else 0) (i + 1) (l.length - (i + 1))
theorem ldF_stable (l : List Sup) (d : List Drw) (f : Nat) : ∀ (f' i : Nat), i < l.length → l.length - i ≤ f → l.length - i ≤ f' → ldF l d f i = ldF l d f' i := by
  induction f with
  | zero => intro f' i h h1; omega
  | succ f ih =>
    intro f' i h h1 h2
    cases f' with
    | zero => omega
    | succ f' =>
      simp only [ldF]
      congr 1
      apply sumR_congr
      intro c hc1 hc2
      split
      · exact ih f' c (by omega) (by omega) (by omega)
      · rfl
/-- The load of supply i. -/
def ld (l : List Sup) (d : List Drw) (i : Nat) : Int := ldF l d (l.length - i) i
/-- What the supplies from n on add to supply j. -/
def up (l : List Sup) (d : List Drw) (n j : Nat) : Int := sumR (fun c => if parentAt l c = (j : Int) then ld l d c else 0) n (l.length - n)
theorem ld_eq (l : List Sup) (d : List Drw) (i : Nat) (h : i < l.length) : ld l d i = own d i + up l d (i + 1) i := by
  unfold ld up
  obtain ⟨f, hf⟩ : ∃ f, l.length - i = f + 1 := ⟨l.length - i - 1, by omega⟩
  rw [hf]
  simp only [ldF]
  congr 1
  apply sumR_congr
  intro c hc1 hc2
  split
  · exact ldF_stable l d f _ c (by omega) (by omega) (by omega)
  · rfl
theorem up_step (l : List Sup) (d : List Drw) (i j : Nat) (h : i < l.length) : up l d i j = (if l[i].parent = (j : Int) then ld l d i else 0) + up l d (i + 1) j := by
  unfold up
  obtain ⟨f, hf⟩ : ∃ f, l.length - i = f + 1 := ⟨l.length - i - 1, by omega⟩
  rw [hf, show l.length - (i + 1) = f by omega]
  simp only [sumR]
  rw [parentAt_eq h]
theorem up_end (l : List Sup) (d : List Drw) (j : Nat) : up l d l.length j = 0 := by simp [up, sumR]

/-! Bounds -/
theorem ownTo_wide (d : List Drw) (hd : ∀ k (h : k < d.length), 0 ≤ d[k].load ∧ d[k].load ≤ 10000) (i m : Nat) : 0 ≤ ownTo d i m ∧ ownTo d i m ≤ 10000 * m := by
  induction m with
  | zero => simp [ownTo]
  | succ m ih =>
    simp only [ownTo]
    split
    · rename_i h
      have := hd m h
      split <;> omega
    · omega
theorem sumR_geo (h : Nat → Int) (k : Nat) : ∀ n, (∀ t, t < k → 0 ≤ h (n + t) ∧ h (n + t) ≤ 320000 * 2 ^ (k - t - 1)) → 0 ≤ sumR h n k ∧ sumR h n k ≤ 320000 * (2 ^ k - 1) := by
  induction k with
  | zero => intro n _; simp [sumR]
  | succ k ih =>
    intro n hc
    simp only [sumR]
    have h1 := hc 0 (by omega)
    have h2 := ih (n + 1) fun t ht => by
      have := hc (t + 1) (by omega)
      rw [show n + (t + 1) = n + 1 + t by omega, show k + 1 - (t + 1) - 1 = k - t - 1 by omega] at this
      exact this
    simp only [Nat.add_zero, Nat.sub_zero, Nat.add_sub_cancel] at h1
    have h3 : (2 : Int) ^ (k + 1) = 2 * 2 ^ k := by rw [Int.pow_succ]; omega
    rw [h3]
    generalize (2 : Int) ^ k = z at *
    omega
theorem ld_wide (l : List Sup) (d : List Drw) (hd : ∀ k (h : k < d.length), 0 ≤ d[k].load ∧ d[k].load ≤ 10000) (hl : d.length ≤ 32) (n : Nat) :
    ∀ i, i < l.length → l.length - i = n → 0 ≤ ld l d i ∧ ld l d i ≤ 320000 * 2 ^ (n - 1) := by
  induction n using Nat.strongRecOn with
  | _ n ih =>
    intro i hi hn
    rw [ld_eq l d i hi]
    have h1 := ownTo_wide d hd i d.length
    have h2 : 0 ≤ up l d (i + 1) i ∧ up l d (i + 1) i ≤ 320000 * (2 ^ (l.length - (i + 1)) - 1) := by
      unfold up
      apply sumR_geo
      intro t ht
      split
      · have := ih (l.length - (i + 1 + t)) (by omega) (i + 1 + t) (by omega) rfl
        rw [show l.length - (i + 1) - t - 1 = l.length - (i + 1 + t) - 1 by omega]
        exact this
      · exact ⟨Int.le_refl _, Int.mul_nonneg (by omega) (Int.pow_nonneg (by omega))⟩
    unfold own
    rw [show n - 1 = l.length - (i + 1) by omega]
    generalize (2 : Int) ^ (l.length - (i + 1)) = z at *
    omega
theorem pow_le (k : Nat) (h : k ≤ 16) : (1 : Int) ≤ 2 ^ k ∧ (2 : Int) ^ k ≤ 65536 := by
  have : k = 0 ∨ k = 1 ∨ k = 2 ∨ k = 3 ∨ k = 4 ∨ k = 5 ∨ k = 6 ∨ k = 7 ∨ k = 8 ∨ k = 9 ∨ k = 10 ∨ k = 11 ∨ k = 12 ∨ k = 13 ∨ k = 14 ∨ k = 15 ∨ k = 16 := by omega
  rcases this with rfl | rfl | rfl | rfl | rfl | rfl | rfl | rfl | rfl | rfl | rfl | rfl | rfl | rfl | rfl | rfl | rfl <;> decide
theorem ld_small (l : List Sup) (d : List Drw) (hd : ∀ k (h : k < d.length), 0 ≤ d[k].load ∧ d[k].load ≤ 10000) (hl : d.length ≤ 32) (hs : l.length ≤ 16) (i : Nat) (hi : i < l.length) : 0 ≤ ld l d i ∧ ld l d i ≤ 20971520000 := by
  have h := ld_wide l d hd hl _ i hi rfl
  have h1 := pow_le (l.length - i - 1) (by omega)
  omega
theorem up_small (l : List Sup) (d : List Drw) (hd : ∀ k (h : k < d.length), 0 ≤ d[k].load ∧ d[k].load ≤ 10000) (hl : d.length ≤ 32) (hs : l.length ≤ 16) (n j : Nat) : 0 ≤ up l d n j ∧ up l d n j ≤ 20971520000 := by
  have h : 0 ≤ up l d n j ∧ up l d n j ≤ 320000 * (2 ^ (l.length - n) - 1) := by
    unfold up
    apply sumR_geo
    intro t ht
    split
    · have := ld_wide l d hd hl _ (n + t) (by omega) rfl
      rw [show l.length - n - t - 1 = l.length - (n + t) - 1 by omega]
      exact this
    · exact ⟨Int.le_refl _, Int.mul_nonneg (by omega) (Int.pow_nonneg (by omega))⟩
  have h1 := pow_le (l.length - n) (by omega)
  omega

/-! The loop -/
def loadsL (l : List Sup) (d : List Drw) : List Int := (List.range l.length).map fun i => ld l d i
theorem loadsL_len (l : List Sup) (d : List Drw) : (loadsL l d).length = l.length := by simp [loadsL]
theorem loadsL_at (l : List Sup) (d : List Drw) (i : Nat) (h : i < (loadsL l d).length) : (loadsL l d)[i] = ld l d i := by simp [loadsL]
/-- The list behind the rounds of the supplies from n on; pre: what the draws have added before the loop. -/
def LInv (l : List Sup) (d : List Drw) (pre : Nat → Int) (n : Nat) (vs : List Int) : Prop :=
  vs.length = l.length ∧ ∀ j (h : j < vs.length), (n ≤ j → vs[j] = ld l d j) ∧ (j < n → vs[j] = pre j + up l d n j)
theorem LInv.start (l : List Sup) (d : List Drw) : LInv l d (fun _ => 0) l.length (List.replicate l.length 0) := by
  refine ⟨by simp, fun j h => ⟨fun h1 => ?_, fun _ => ?_⟩⟩
  · simp at h; omega
  · rw [up_end]; simp
theorem LInv.step0 {l : List Sup} {d : List Drw} {pre : Nat → Int} {i : Nat} {vs : List Int} (h : LInv l d pre (i + 1) vs) (hi : i < l.length) (hp : l[i].parent < 0) : LInv l d pre i (vs.set i (ld l d i)) := by
  obtain ⟨h1, h2⟩ := h
  refine ⟨by simpa using h1, fun j hj => ?_⟩
  simp only [List.length_set] at hj
  have hj2 := h2 j hj
  refine ⟨fun hij => ?_, fun hij => ?_⟩
  · by_cases e : i = j
    · subst e; simp
    · rw [List.getElem_set_ne e]; exact hj2.1 (by omega)
  · rw [List.getElem_set_ne (by omega), hj2.2 (by omega), up_step l d i j hi, if_neg (by omega)]; omega
theorem LInv.step1 {l : List Sup} {d : List Drw} {pre : Nat → Int} {i : Nat} {vs : List Int} (h : LInv l d pre (i + 1) vs) (hi : i < l.length) (p : Nat) (hp : l[i].parent = (p : Int)) (hpi : p < i) (hpl : p < vs.length) :
    LInv l d pre i ((vs.set i (ld l d i)).set p (vs[p] + ld l d i)) := by
  obtain ⟨h1, h2⟩ := h
  refine ⟨by simpa using h1, fun j hj => ?_⟩
  simp only [List.length_set] at hj
  have hj2 := h2 j hj
  refine ⟨fun hij => ?_, fun hij => ?_⟩
  · rw [List.getElem_set_ne (by omega)]
    by_cases e : i = j
    · subst e; simp
    · rw [List.getElem_set_ne e]; exact hj2.1 (by omega)
  · by_cases e : p = j
    · subst e
      rw [List.getElem_set_self, hj2.2 (by omega), up_step l d i p hi, if_pos hp]; omega
    · rw [List.getElem_set_ne e, List.getElem_set_ne (by omega), hj2.2 (by omega), up_step l d i j hi, if_neg (by omega)]; omega
theorem LInv.done {l : List Sup} {d : List Drw} {pre : Nat → Int} {vs : List Int} (h : LInv l d pre 0 vs) : vs = loadsL l d := by
  obtain ⟨h1, h2⟩ := h
  refine List.ext_getElem (by rw [h1, loadsL_len]) fun i q1 q2 => ?_
  rw [loadsL_at]; exact (h2 i q1).1 (Nat.zero_le _)
end Go.Proofs.Ytoenkcojfogmmaa

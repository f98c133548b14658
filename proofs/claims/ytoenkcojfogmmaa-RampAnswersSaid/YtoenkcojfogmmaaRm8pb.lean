/- Lemmas and contracts for the proof of RampAnswers (several texts in one, printed by wip/tools/pack.py): ZSupA ZSupL ZSupB ZRefA ZSupR ZSupS ZSupU ZSupV ZSupM. -/
import Derived.Test.YtoenkcojfogmmaaRm8pa
import Derived.Deep.DeepCutAuto
set_option maxRecDepth 100000
set_option maxHeartbeats 16000000
set_option linter.unusedVariables false
set_option linter.unusedSimpArgs false
namespace Go.Proofs.Ytoenkcojfogmmaa
open Go.RowKit
structure Sup where
  parent : Int
  levels : List Int
  dropout : Int
  capacity : Int
  always : Bool
structure Drw where
  supply : Int
  low : Int
  high : Int
  load : Int
structure Rls where
  on : List Bool
  level : List Int
structure Wri where
  kind : Int
  unit : Int
  value : Int
def RSup (w : World) (b o : Nat) (s : Sup) : Prop := RI w b o s.parent ∧ RSl 1 RI w b (o + 1) s.levels ∧ RI w b (o + 2) s.dropout ∧ RI w b (o + 3) s.capacity ∧ RB w b (o + 4) s.always
def RDrw (w : World) (b o : Nat) (s : Drw) : Prop := RI w b o s.supply ∧ RI w b (o + 1) s.low ∧ RI w b (o + 2) s.high ∧ RI w b (o + 3) s.load
def RRls (w : World) (b o : Nat) (s : Rls) : Prop := RSl 1 RB w b o s.on ∧ RSl 1 RI w b (o + 1) s.level
def RWri (w : World) (b o : Nat) (s : Wri) : Prop := RI w b o s.kind ∧ RI w b (o + 1) s.unit ∧ RI w b (o + 2) s.value
theorem RSup.mono : Mono RSup := fun _ _ _ _ _ hg ⟨h0, h1, h2, h3, h4⟩ => ⟨RI.mono _ _ _ _ _ hg h0, RSl.mono RI.mono _ _ _ _ _ hg h1, RI.mono _ _ _ _ _ hg h2, RI.mono _ _ _ _ _ hg h3, RB.mono _ _ _ _ _ hg h4⟩
theorem RDrw.mono : Mono RDrw := fun _ _ _ _ _ hg ⟨h0, h1, h2, h3⟩ => ⟨RI.mono _ _ _ _ _ hg h0, RI.mono _ _ _ _ _ hg h1, RI.mono _ _ _ _ _ hg h2, RI.mono _ _ _ _ _ hg h3⟩
theorem RRls.mono : Mono RRls := fun _ _ _ _ _ hg ⟨h0, h1⟩ => ⟨RSl.mono RB.mono _ _ _ _ _ hg h0, RSl.mono RI.mono _ _ _ _ _ hg h1⟩
theorem RWri.mono : Mono RWri := fun _ _ _ _ _ hg ⟨h0, h1, h2⟩ => ⟨RI.mono _ _ _ _ _ hg h0, RI.mono _ _ _ _ _ hg h1, RI.mono _ _ _ _ _ hg h2⟩
theorem sups_gr {w w' : World} {ao : Option Addr} {xs : List Sup} (h : SlOf 5 RSup w ao xs) (hg : Gr w w') : SlOf 5 RSup w' ao xs := h.gr RSup.mono hg
theorem drws_gr {w w' : World} {ao : Option Addr} {xs : List Drw} (h : SlOf 4 RDrw w ao xs) (hg : Gr w w') : SlOf 4 RDrw w' ao xs := h.gr RDrw.mono hg
/-! What is valid -/
def LvOk (xs : List Int) (j : Nat) : Prop := ∃ h : j < xs.length, 1 ≤ xs[j] ∧ xs[j] ≤ 5000 ∧ (0 < j → xs[j - 1]'(by omega) < xs[j])
def HeadOk (s : Sup) (i : Nat) : Prop := -1 ≤ s.parent ∧ s.parent ≤ (i : Int) - 1 ∧ 1 ≤ s.levels.length ∧ 0 ≤ s.dropout ∧ s.dropout ≤ 5000 ∧ (s.parent < 0 → s.dropout = 0) ∧ 0 ≤ s.capacity ∧ s.capacity ≤ 10000
def SupOk (s : Sup) (i : Nat) : Prop := HeadOk s i ∧ ∀ j, j < s.levels.length → LvOk s.levels j
def BigAtZ (l : List Sup) (k : Nat) : Prop := ∃ h : k < l.length, 16 < l[k].levels.length
def OkAtZ (l : List Sup) (k : Nat) : Prop := ∃ h : k < l.length, SupOk l[k] k
def BigZ (l : List Sup) : Prop := 16 < l.length ∨ ∃ k, BigAtZ l k
def AllOkZ (l : List Sup) : Prop := ∀ k, k < l.length → OkAtZ l k
open Classical in
noncomputable def chk (l : List Sup) : Int := if BigZ l then 3 else if AllOkZ l then 0 else 1
theorem chk_big {l : List Sup} (h : BigZ l) : chk l = 3 := by simp [chk, h]
theorem chk_ok {l : List Sup} (h : ¬ BigZ l) (k : AllOkZ l) : chk l = 0 := by simp [chk, h, k]
theorem chk_bad {l : List Sup} (h : ¬ BigZ l) (k : ¬ AllOkZ l) : chk l = 1 := by simp [chk, h, k]
theorem chk_zero {l : List Sup} (h : chk l = 0) : ¬ BigZ l ∧ AllOkZ l := by
  unfold chk at h
  split at h
  · omega
  · split at h
    · exact ⟨by assumption, by assumption⟩
    · omega
theorem chk_wide (l : List Sup) : 0 ≤ chk l ∧ chk l ≤ 3 := by unfold chk; split <;> (try split) <;> omega
theorem bad_lv {l : List Sup} {k m : Nat} (hk : k < l.length) (hm : m < l[k].levels.length) (h : ¬ LvOk l[k].levels m) : ¬ AllOkZ l := fun ha => by
  obtain ⟨_, hs⟩ := ha k hk
  exact h (hs.2 m hm)
theorem bad_head {l : List Sup} {k : Nat} (hk : k < l.length) (h : ¬ HeadOk l[k] k) : ¬ AllOkZ l := fun ha => by
  obtain ⟨_, hs⟩ := ha k hk
  exact h hs.1
def DrwOk (l : List Sup) (x : Drw) : Prop := 0 ≤ x.supply ∧ x.supply ≤ (l.length : Int) - 1 ∧ 0 ≤ x.low ∧ x.low ≤ x.high ∧ x.high ≤ 5000 ∧ 0 ≤ x.load ∧ x.load ≤ 10000
def DrwsOk (l : List Sup) (d : List Drw) : Prop := chk l = 0 ∧ d.length ≤ 32 ∧ ∀ k (h : k < d.length), DrwOk l d[k]
def RlsOk (l : List Sup) (r : Rls) : Prop := chk l = 0 ∧ r.on.length = l.length ∧ r.level.length = l.length ∧ ∀ k (h : k < l.length) (h' : k < r.level.length), 0 ≤ r.level[k] ∧ r.level[k] ≤ (l[k].levels.length : Int) - 1
end Go.Proofs.Ytoenkcojfogmmaa

set_option linter.unusedVariables false
set_option linter.unusedSimpArgs false
namespace Go.Proofs.Ytoenkcojfogmmaa
def sumR (h : Nat → Int) : Nat → Nat → Int
  | _, 0 => 0
  | n, k + 1 => h n + sumR h (n + 1) k
theorem sumR_congr {h g : Nat → Int} {k : Nat} : ∀ {n : Nat}, (∀ c, n ≤ c → c < n + k → h c = g c) → sumR h n k = sumR g n k := by
  induction k with
  | zero => intro n _; rfl
  | succ k ih =>
    intro n hc
    simp only [sumR]
    rw [hc n (Nat.le_refl _) (by omega), ih fun c h1 h2 => hc c (by omega) (by omega)]
def ownTo (d : List Drw) (i : Nat) : Nat → Int
  | 0 => 0
  | m + 1 => ownTo d i m + (if h : m < d.length then (if d[m].supply = (i : Int) then d[m].load else 0) else 0)
def own (d : List Drw) (i : Nat) : Int := ownTo d i d.length
def parentAt (l : List Sup) (c : Nat) : Int := if h : c < l.length then l[c].parent else -1
theorem parentAt_eq {l : List Sup} {c : Nat} (h : c < l.length) : parentAt l c = l[c].parent := by simp [parentAt, h]
def ldF (l : List Sup) (d : List Drw) : Nat → Nat → Int
  | 0, _ => 0
  | f + 1, i => own d i + sumR (fun c => if parentAt l c = (i : Int) then ldF l d f c else 0) (i + 1) (l.length - (i + 1))
theorem ldF_stable (l : List Sup) (d : List Drw) (f : Nat) : ∀ (f' i : Nat), i < l.length → l.length - i ≤ f → l.length - i ≤ f' → ldF l d f i = ldF l d f' i := by
  induction f with
  | zero => intro f' i h h1; omega
  | succ f ih =>
    intro f' i h h1 h2
    cases f' with
    | zero => omega
    | succ f' =>
      simp only [ldF]
      congr 1
      apply sumR_congr
      intro c hc1 hc2
      split
      · exact ih f' c (by omega) (by omega) (by omega)
      · rfl
def ld (l : List Sup) (d : List Drw) (i : Nat) : Int := ldF l d (l.length - i) i
def up (l : List Sup) (d : List Drw) (n j : Nat) : Int := sumR (fun c => if parentAt l c = (j : Int) then ld l d c else 0) n (l.length - n)
theorem ld_eq (l : List Sup) (d : List Drw) (i : Nat) (h : i < l.length) : ld l d i = own d i + up l d (i + 1) i := by
  unfold ld up
  obtain ⟨f, hf⟩ : ∃ f, l.length - i = f + 1 := ⟨l.length - i - 1, by omega⟩
  rw [hf]
  simp only [ldF]
  congr 1
  apply sumR_congr
  intro c hc1 hc2
  split
  · exact ldF_stable l d f _ c (by omega) (by omega) (by omega)
  · rfl
theorem up_step (l : List Sup) (d : List Drw) (i j : Nat) (h : i < l.length) : up l d i j = (if l[i].parent = (j : Int) then ld l d i else 0) + up l d (i + 1) j := by
  unfold up
  obtain ⟨f, hf⟩ : ∃ f, l.length - i = f + 1 := ⟨l.length - i - 1, by omega⟩
  rw [hf, show l.length - (i + 1) = f by omega]
  simp only [sumR]
  rw [parentAt_eq h]
theorem up_end (l : List Sup) (d : List Drw) (j : Nat) : up l d l.length j = 0 := by simp [up, sumR]
/-! Bounds -/
theorem ownTo_wide (d : List Drw) (hd : ∀ k (h : k < d.length), 0 ≤ d[k].load ∧ d[k].load ≤ 10000) (i m : Nat) : 0 ≤ ownTo d i m ∧ ownTo d i m ≤ 10000 * m := by
  induction m with
  | zero => simp [ownTo]
  | succ m ih =>
    simp only [ownTo]
    split
    · rename_i h
      have := hd m h
      split <;> omega
    · omega
theorem sumR_geo (h : Nat → Int) (k : Nat) : ∀ n, (∀ t, t < k → 0 ≤ h (n + t) ∧ h (n + t) ≤ 320000 * 2 ^ (k - t - 1)) → 0 ≤ sumR h n k ∧ sumR h n k ≤ 320000 * (2 ^ k - 1) := by
  induction k with
  | zero => intro n _; simp [sumR]
  | succ k ih =>
    intro n hc
    simp only [sumR]
    have h1 := hc 0 (by omega)
    have h2 := ih (n + 1) fun t ht => by
      have := hc (t + 1) (by omega)
      rw [show n + (t + 1) = n + 1 + t by omega, show k + 1 - (t + 1) - 1 = k - t - 1 by omega] at this
      exact this
    simp only [Nat.add_zero, Nat.sub_zero, Nat.add_sub_cancel] at h1
    have h3 : (2 : Int) ^ (k + 1) = 2 * 2 ^ k := by rw [Int.pow_succ]; omega
    rw [h3]
    generalize (2 : Int) ^ k = z at *
    omega
theorem ld_wide (l : List Sup) (d : List Drw) (hd : ∀ k (h : k < d.length), 0 ≤ d[k].load ∧ d[k].load ≤ 10000) (hl : d.length ≤ 32) (n : Nat) :
    ∀ i, i < l.length → l.length - i = n → 0 ≤ ld l d i ∧ ld l d i ≤ 320000 * 2 ^ (n - 1) := by
  induction n using Nat.strongRecOn with
  | _ n ih =>
    intro i hi hn
    rw [ld_eq l d i hi]
    have h1 := ownTo_wide d hd i d.length
    have h2 : 0 ≤ up l d (i + 1) i ∧ up l d (i + 1) i ≤ 320000 * (2 ^ (l.length - (i + 1)) - 1) := by
      unfold up
      apply sumR_geo
      intro t ht
      split
      · have := ih (l.length - (i + 1 + t)) (by omega) (i + 1 + t) (by omega) rfl
        rw [show l.length - (i + 1) - t - 1 = l.length - (i + 1 + t) - 1 by omega]
        exact this
      · exact ⟨Int.le_refl _, Int.mul_nonneg (by omega) (Int.pow_nonneg (by omega))⟩
    unfold own
    rw [show n - 1 = l.length - (i + 1) by omega]
    generalize (2 : Int) ^ (l.length - (i + 1)) = z at *
    omega
theorem pow_le (k : Nat) (h : k ≤ 16) : (1 : Int) ≤ 2 ^ k ∧ (2 : Int) ^ k ≤ 65536 := by
  have : k = 0 ∨ k = 1 ∨ k = 2 ∨ k = 3 ∨ k = 4 ∨ k = 5 ∨ k = 6 ∨ k = 7 ∨ k = 8 ∨ k = 9 ∨ k = 10 ∨ k = 11 ∨ k = 12 ∨ k = 13 ∨ k = 14 ∨ k = 15 ∨ k = 16 := by omega
  rcases this with rfl | rfl | rfl | rfl | rfl | rfl | rfl | rfl | rfl | rfl | rfl | rfl | rfl | rfl | rfl | rfl | rfl <;> decide
theorem ld_small (l : List Sup) (d : List Drw) (hd : ∀ k (h : k < d.length), 0 ≤ d[k].load ∧ d[k].load ≤ 10000) (hl : d.length ≤ 32) (hs : l.length ≤ 16) (i : Nat) (hi : i < l.length) : 0 ≤ ld l d i ∧ ld l d i ≤ 20971520000 := by
  have h := ld_wide l d hd hl _ i hi rfl
  have h1 := pow_le (l.length - i - 1) (by omega)
  omega
theorem up_small (l : List Sup) (d : List Drw) (hd : ∀ k (h : k < d.length), 0 ≤ d[k].load ∧ d[k].load ≤ 10000) (hl : d.length ≤ 32) (hs : l.length ≤ 16) (n j : Nat) : 0 ≤ up l d n j ∧ up l d n j ≤ 20971520000 := by
  have h : 0 ≤ up l d n j ∧ up l d n j ≤ 320000 * (2 ^ (l.length - n) - 1) := by
    unfold up
    apply sumR_geo
    intro t ht
    split
    · have := ld_wide l d hd hl _ (n + t) (by omega) rfl
      rw [show l.length - n - t - 1 = l.length - (n + t) - 1 by omega]
      exact this
    · exact ⟨Int.le_refl _, Int.mul_nonneg (by omega) (Int.pow_nonneg (by omega))⟩
  have h1 := pow_le (l.length - n) (by omega)
  omega
/-! The loop -/
def loadsL (l : List Sup) (d : List Drw) : List Int := (List.range l.length).map fun i => ld l d i
theorem loadsL_len (l : List Sup) (d : List Drw) : (loadsL l d).length = l.length := by simp [loadsL]
theorem loadsL_at (l : List Sup) (d : List Drw) (i : Nat) (h : i < (loadsL l d).length) : (loadsL l d)[i] = ld l d i := by simp [loadsL]
def LInv (l : List Sup) (d : List Drw) (pre : Nat → Int) (n : Nat) (vs : List Int) : Prop :=
  vs.length = l.length ∧ ∀ j (h : j < vs.length), (n ≤ j → vs[j] = ld l d j) ∧ (j < n → vs[j] = pre j + up l d n j)
theorem LInv.start (l : List Sup) (d : List Drw) : LInv l d (fun _ => 0) l.length (List.replicate l.length 0) := by
  refine ⟨by simp, fun j h => ⟨fun h1 => ?_, fun _ => ?_⟩⟩
  · simp at h; omega
  · rw [up_end]; simp
theorem LInv.step0 {l : List Sup} {d : List Drw} {pre : Nat → Int} {i : Nat} {vs : List Int} (h : LInv l d pre (i + 1) vs) (hi : i < l.length) (hp : l[i].parent < 0) : LInv l d pre i (vs.set i (ld l d i)) := by
  obtain ⟨h1, h2⟩ := h
  refine ⟨by simpa using h1, fun j hj => ?_⟩
  simp only [List.length_set] at hj
  have hj2 := h2 j hj
  refine ⟨fun hij => ?_, fun hij => ?_⟩
  · by_cases e : i = j
    · subst e; simp
    · rw [List.getElem_set_ne e]; exact hj2.1 (by omega)
  · rw [List.getElem_set_ne (by omega), hj2.2 (by omega), up_step l d i j hi, if_neg (by omega)]; omega
theorem LInv.step1 {l : List Sup} {d : List Drw} {pre : Nat → Int} {i : Nat} {vs : List Int} (h : LInv l d pre (i + 1) vs) (hi : i < l.length) (p : Nat) (hp : l[i].parent = (p : Int)) (hpi : p < i) (hpl : p < vs.length) :
    LInv l d pre i ((vs.set i (ld l d i)).set p (vs[p] + ld l d i)) := by
  obtain ⟨h1, h2⟩ := h
  refine ⟨by simpa using h1, fun j hj => ?_⟩
  simp only [List.length_set] at hj
  have hj2 := h2 j hj
  refine ⟨fun hij => ?_, fun hij => ?_⟩
  · rw [List.getElem_set_ne (by omega)]
    by_cases e : i = j
    · subst e; simp
    · rw [List.getElem_set_ne e]; exact hj2.1 (by omega)
  · by_cases e : p = j
    · subst e
      rw [List.getElem_set_self, hj2.2 (by omega), up_step l d i p hi, if_pos hp]; omega
    · rw [List.getElem_set_ne e, List.getElem_set_ne (by omega), hj2.2 (by omega), up_step l d i j hi, if_neg (by omega)]; omega
theorem LInv.done {l : List Sup} {d : List Drw} {pre : Nat → Int} {vs : List Int} (h : LInv l d pre 0 vs) : vs = loadsL l d := by
  obtain ⟨h1, h2⟩ := h
  refine List.ext_getElem (by rw [h1, loadsL_len]) fun i q1 q2 => ?_
  rw [loadsL_at]; exact (h2 i q1).1 (Nat.zero_le _)
end Go.Proofs.Ytoenkcojfogmmaa

set_option linter.unusedVariables false
set_option linter.unusedSimpArgs false
namespace Go.Proofs.Ytoenkcojfogmmaa
open Classical
def UsedF (l : List Sup) (d : List Drw) : Nat → Nat → Prop
  | 0, _ => False
  | f + 1, i => ∃ h : i < l.length, l[i].always = true ∨ (∃ x ∈ d, x.supply = (i : Int)) ∨ ∃ c, i < c ∧ ∃ hc : c < l.length, l[c].parent = (i : Int) ∧ UsedF l d f c
def Used (l : List Sup) (d : List Drw) (i : Nat) : Prop := ∃ f, UsedF l d f i
theorem used_iff (l : List Sup) (d : List Drw) (i : Nat) (hi : i < l.length) :
    Used l d i ↔ l[i].always = true ∨ (∃ x ∈ d, x.supply = (i : Int)) ∨ ∃ c, i < c ∧ ∃ hc : c < l.length, l[c].parent = (i : Int) ∧ Used l d c := by
  constructor
  · rintro ⟨f, hf⟩
    cases f with
    | zero => exact hf.elim
    | succ f =>
      obtain ⟨_, h | h | ⟨c, h1, h2, h3, h4⟩⟩ := hf
      · exact .inl h
      · exact .inr (.inl h)
      · exact .inr (.inr ⟨c, h1, h2, h3, f, h4⟩)
  · rintro (h | h | ⟨c, h1, h2, h3, f, h4⟩)
    · exact ⟨1, hi, .inl h⟩
    · exact ⟨1, hi, .inr (.inl h)⟩
    · exact ⟨f + 1, hi, .inr (.inr ⟨c, h1, h2, h3, h4⟩)⟩
noncomputable def usedL (l : List Sup) (d : List Drw) : List Bool := (List.range l.length).map fun i => decide (Used l d i)
theorem usedL_len (l : List Sup) (d : List Drw) : (usedL l d).length = l.length := by simp [usedL]
theorem usedL_at (l : List Sup) (d : List Drw) (i : Nat) (h : i < (usedL l d).length) : (usedL l d)[i] = decide (Used l d i) := by simp [usedL]
def FromUp (l : List Sup) (d : List Drw) (n j : Nat) : Prop := ∃ c, n ≤ c ∧ ∃ hc : c < l.length, l[c].parent = (j : Int) ∧ Used l d c
def UInv (l : List Sup) (d : List Drw) (pre : Nat → Prop) (n : Nat) (vs : List Bool) : Prop :=
  vs.length = l.length ∧ ∀ j (h : j < vs.length), (n ≤ j → (vs[j] = true ↔ Used l d j)) ∧ (j < n → (vs[j] = true ↔ pre j ∨ FromUp l d n j))
theorem UInv.start (l : List Sup) (d : List Drw) : UInv l d (fun _ => False) l.length (List.replicate l.length false) := by
  refine ⟨by simp, fun j h => ⟨fun h1 => ?_, fun _ => ?_⟩⟩
  · simp at h; omega
  · simp only [List.getElem_replicate, Bool.false_eq_true, false_or, false_iff]
    rintro ⟨c, h1, h2, _⟩; omega
theorem fromUp_step {l : List Sup} {d : List Drw} {i j : Nat} (hi : i < l.length) : FromUp l d i j ↔ FromUp l d (i + 1) j ∨ (l[i].parent = (j : Int) ∧ Used l d i) := by
  constructor
  · rintro ⟨c, h1, h2, h3, h4⟩
    by_cases e : c = i
    · subst e; exact .inr ⟨h3, h4⟩
    · exact .inl ⟨c, by omega, h2, h3, h4⟩
  · rintro (⟨c, h1, h2, h3, h4⟩ | ⟨h3, h4⟩)
    · exact ⟨c, by omega, h2, h3, h4⟩
    · exact ⟨i, Nat.le_refl _, hi, h3, h4⟩
theorem used_here {l : List Sup} {d : List Drw} {i : Nat} (hi : i < l.length) : Used l d i ↔ (l[i].always = true ∨ (∃ x ∈ d, x.supply = (i : Int)) ∨ FromUp l d (i + 1) i) := by
  rw [used_iff l d i hi]; rfl
theorem UInv.step0 {l : List Sup} {d : List Drw} {pre : Nat → Prop} {i : Nat} {vs : List Bool} (h : UInv l d pre (i + 1) vs) (hi : i < l.length) (b : Bool) (hb : b = true ↔ Used l d i)
    (hp : ¬ (b = true ∧ 0 ≤ l[i].parent)) : UInv l d pre i (vs.set i b) := by
  obtain ⟨h1, h2⟩ := h
  refine ⟨by simpa using h1, fun j hj => ?_⟩
  simp only [List.length_set] at hj
  have hj2 := h2 j hj
  refine ⟨fun hij => ?_, fun hij => ?_⟩
  · by_cases e : i = j
    · subst e; simpa using hb
    · rw [List.getElem_set_ne e]; exact hj2.1 (by omega)
  · rw [List.getElem_set_ne (by omega), hj2.2 (by omega), fromUp_step hi]
    constructor
    · rintro (h | h)
      · exact .inl h
      · exact .inr (.inl h)
    · rintro (h | h | ⟨h3, h4⟩)
      · exact .inl h
      · exact .inr h
      · exact absurd ⟨hb.2 h4, by omega⟩ hp
theorem UInv.step1 {l : List Sup} {d : List Drw} {pre : Nat → Prop} {i : Nat} {vs : List Bool} (h : UInv l d pre (i + 1) vs) (hi : i < l.length) (b : Bool) (hb : b = true ↔ Used l d i) (ht : b = true) (p : Nat) (hp : l[i].parent = (p : Int)) (hpi : p < i) :
    UInv l d pre i ((vs.set i b).set p true) := by
  obtain ⟨h1, h2⟩ := h
  refine ⟨by simpa using h1, fun j hj => ?_⟩
  simp only [List.length_set] at hj
  have hj2 := h2 j hj
  refine ⟨fun hij => ?_, fun hij => ?_⟩
  · rw [List.getElem_set_ne (by omega)]
    by_cases e : i = j
    · subst e; simpa using hb
    · rw [List.getElem_set_ne e]; exact hj2.1 (by omega)
  · by_cases e : p = j
    · subst e
      simp only [List.getElem_set_self, true_iff]
      exact .inr ((fromUp_step hi).2 (.inr ⟨hp, hb.1 ht⟩))
    · rw [List.getElem_set_ne e, List.getElem_set_ne (by omega), hj2.2 (by omega), fromUp_step hi]
      constructor
      · rintro (h | h)
        · exact .inl h
        · exact .inr (.inl h)
      · rintro (h | h | ⟨h3, h4⟩)
        · exact .inl h
        · exact .inr h
        · omega
theorem UInv.done {l : List Sup} {d : List Drw} {pre : Nat → Prop} {vs : List Bool} (h : UInv l d pre 0 vs) : vs = usedL l d := by
  obtain ⟨h1, h2⟩ := h
  refine List.ext_getElem (by rw [h1, usedL_len]) fun i q1 q2 => ?_
  rw [usedL_at]
  have := (h2 i q1).1 (Nat.zero_le _)
  rw [Bool.eq_iff_iff, this]; simp
end Go.Proofs.Ytoenkcojfogmmaa

set_option linter.unusedVariables false
set_option linter.unusedSimpArgs false
namespace Go.Proofs.Ytoenkcojfogmmaa
open Go.RowKit
end Go.Proofs.Ytoenkcojfogmmaa

set_option linter.unusedVariables false
set_option linter.unusedSimpArgs false
namespace Go.Proofs.Ytoenkcojfogmmaa
open Go.RowKit
open Classical
theorem in_anyZ (x lo hi : Int) (w : World) :
    Calls Try.prog 50 #[.int .i64 x, .int .i64 lo, .int .i64 hi] w fun e w' => e = .returned (.bool (decide (lo ≤ x) && decide (x ≤ hi))) ∧ w = w' := by
  go_enter Try.func50, Try.ntmps50
  go_wp2
  all_goals go_ret
  all_goals exact ⟨ret_bool (by rw [Bool.eq_iff_iff]; simp; try omega), rfl⟩
theorem refCheck_anyZ (l : List Sup) (ao : Option Addr) (cap : Nat) (w : World) (h : SlOf 5 RSup w ao l) (hf : Fit l.length) :
    Calls Try.prog 44 #[.slice ao l.length cap] w (Grows w (.int .i64 (chk l))) := by
  unfold Fit at hf
  have H := Lib.hid h
  clear h
  by_cases hb : 16 < l.length
  · rw [chk_big (.inl hb)]
    go_enter Try.func44, Try.ntmps44
    go_wp2
    go_ret
    exact ⟨rfl, Gr.refl _⟩
  · go_enter Try.func44, Try.ntmps44
    go_wp2
    go_loopw [14] (fun i wr => ∃ k : Nat, k ≤ l.length ∧ i = .int .i64 k ∧ (∀ j, j < k → ¬ BigAtZ l j) ∧ Gr w wr) (fun i _ => l.length - (intOf i).toNat)
    case atStart => exact ⟨0, Nat.zero_le _, rfl, fun j h => absurd h (by omega), Gr.refl _⟩
    case round =>
      obtain ⟨k, hk, rfl, hall, hg⟩ := hrel
      have HA := Lib.hid hall
      have HG := Lib.hid hg
      clear hall hg
      by_cases hlt : k < l.length
      · obtain ⟨b, o, rfl, ⟨c0, _⟩, ⟨al, cl, c1, c1l, _, _⟩, ⟨c2, _⟩, ⟨c3, _⟩, c4⟩ := sups_gr H.out HG.out k hlt
        unfold RB at c4
        go_wp2
        · go_ret
          rename_i q _
          exact ⟨ret_int (chk_big (.inr ⟨k, hlt, by omega⟩)).symm, by repeat (first | with_reducible exact HG.out | with_reducible refine Gr.alloc _ ?_)⟩
        · go_roundw
          case rel =>
            refine ⟨k + 1, by omega, by go_num, fun j hj => ?_, by repeat (first | with_reducible exact HG.out | with_reducible refine Gr.alloc _ ?_)⟩
            by_cases e : j = k
            · subst e; rintro ⟨_, h⟩; omega
            · exact HA.out j (by omega)
          case measure => simp [intOf]; omega
      · have hNB : ¬ BigZ l := by
          rintro (h | ⟨j, h⟩)
          · omega
          · exact HA.out j (by obtain ⟨h1, _⟩ := h; omega) h
        have NB := Lib.hid hNB
        clear HA hNB
        obtain ⟨w1, rfl⟩ : ∃ w1 : World, w1 = wr := ⟨_, rfl⟩
        go_wp2
        go_loopw [25] (fun i wr => ∃ k : Nat, k ≤ l.length ∧ i = .int .i64 k ∧ (∀ j, j < k → OkAtZ l j) ∧ Gr w wr) (fun i _ => l.length - (intOf i).toNat)
        case atStart => exact ⟨0, Nat.zero_le _, rfl, fun j h => absurd h (by omega), HG.out⟩
        case round =>
          clear HG
          obtain ⟨k, hk, rfl, hall, hg⟩ := hrel
          have HA := Lib.hid hall
          have HG := Lib.hid hg
          clear hall hg
          obtain ⟨wo, rfl⟩ : ∃ wo : World, wo = wr := ⟨_, rfl⟩
          by_cases hlt : k < l.length
          · obtain ⟨b, o, rfl, ⟨c0, _⟩, ⟨al, cl, c1, c1l, c1f, cL⟩, ⟨c2, _⟩, ⟨c3, _⟩, c4⟩ := sups_gr H.out HG.out k hlt
            unfold RB at c4
            unfold Fit at c1f
            have CL := Lib.hid cL
            clear cL
            by_cases hH : HeadOk l[k] k
            · have HH := Lib.hid hH
              obtain ⟨h1, h2, h3, h4, h5, h6, h7, h8⟩ := hH
              have h6' : l[k].parent < 0 → (l[k].dropout != 0) = false := fun h => by simp [h6 h]
              clear h6
              by_cases hp : l[k].parent < 0
              all_goals
                first | (have h6 := h6' hp) | skip
                clear h6'
                go_wp2_with (go_at_call 50; refine (in_anyZ _ _ _ _).mono ?_; rintro e w' ⟨rfl, rfl⟩)
                obtain ⟨w2, hw2⟩ : ∃ w2 : World, Hid (w2 = wo.alloc (.cells #[.int .i64 l[k].parent, .slice al l[k].levels.length cl, .int .i64 l[k].dropout, .int .i64 l[k].capacity, .bool l[k].always] 70)) := ⟨_, Lib.hid rfl⟩
                go_loopw [67] (fun i wr => ∃ m : Nat, m ≤ l[k].levels.length ∧ i = .int .i64 m ∧ (∀ j, j < m → LvOk l[k].levels j) ∧ Gr w2 wr) (fun i _ => l[k].levels.length - (intOf i).toNat)
                case atStart => exact ⟨0, Nat.zero_le _, rfl, fun j h => absurd h (by omega), by rw [hw2.out]; exact Gr.refl _⟩
                case round =>
                  obtain ⟨m, hm, rfl, hlv, hg2⟩ := hrel
                  have HLV := Lib.hid hlv
                  have G2 := Lib.hid hg2
                  have G1 : Hid (Gr wo wr) := Lib.hid (((Gr.refl wo).alloc _).trans (hw2.out ▸ hg2))
                  have e1 : wr.cell? ⟨wo.heap.size, 1, none⟩ = some (.slice al l[k].levels.length cl) := by
                    have := hg2; rw [hw2.out] at this; exact cell_gr this (by simp [go_sem])
                  clear hlv hg2
                  by_cases hlm : m < l[k].levels.length
                  · obtain ⟨bl, ol, rfl, hcs⟩ := (CL.out.giI G1.out).all1 (by omega)
                    obtain ⟨d1, d1w, d1x⟩ := hcs m hlm
                    by_cases hm0 : 0 < m
                    · obtain ⟨d2, _⟩ := hcs (m - 1) (by omega)
                      clear hcs
                      go_wp2_with (go_at_call 50; refine (in_anyZ _ _ _ _).mono ?_; rintro e w' ⟨rfl, rfl⟩)
                      all_goals first
                        | (go_ret; exact ⟨ret_int (chk_bad NB.out (bad_lv hlt hlm (by rintro ⟨_, q1, q2, q3⟩; have q4 := q3 hm0; omega))).symm, HG.out.trans G1.out⟩)
                        | (go_roundw; (case rel => exact ⟨m + 1, by omega, by go_num, fun j hj => by (by_cases e : j = m); (· subst e; exact ⟨hlm, by omega, by omega, fun _ => by omega⟩); (· exact HLV.out j (by omega)), G2.out⟩); (case measure => simp [intOf]; omega))
                    · clear hcs
                      go_wp2_with (go_at_call 50; refine (in_anyZ _ _ _ _).mono ?_; rintro e w' ⟨rfl, rfl⟩)
                      all_goals first
                        | (go_ret; exact ⟨ret_int (chk_bad NB.out (bad_lv hlt hlm (by rintro ⟨_, q1, q2, q3⟩; omega))).symm, HG.out.trans G1.out⟩)
                        | (go_roundw; (case rel => exact ⟨m + 1, by omega, by go_num, fun j hj => by (by_cases e : j = m); (· subst e; exact ⟨hlm, by omega, by omega, fun _ => by omega⟩); (· exact HLV.out j (by omega)), G2.out⟩); (case measure => simp [intOf]; omega))
                  · go_wp2
                    go_roundw
                    case rel =>
                      refine ⟨k + 1, by omega, by go_num, fun j hj => ?_, HG.out.trans G1.out⟩
                      by_cases e : j = k
                      · subst e; exact ⟨hlt, HH.out, fun i hi => HLV.out i (by omega)⟩
                      · exact HA.out j (by omega)
                    case measure => simp [intOf]; omega
            · have hB := Lib.hid (bad_head hlt hH)
              unfold HeadOk at hH
              go_wp2_with (go_at_call 50; refine (in_anyZ _ _ _ _).mono ?_; rintro e w' ⟨rfl, rfl⟩)
              all_goals first
                | (go_ret; exact ⟨ret_int (chk_bad NB.out hB.out).symm, by repeat (first | with_reducible exact HG.out | with_reducible refine Gr.alloc _ ?_)⟩)
                | (exfalso; (try simp only [Bool.not_eq_eq_eq_not, Bool.not_false, Bool.not_true, decide_eq_true_eq, decide_eq_false_iff_not, bne_eq_false_iff_eq, bne_iff_ne, ne_eq] at *); omega)
          · go_wp2
            go_ret
            exact ⟨ret_int (chk_ok NB.out (fun j hj => HA.out j (by omega))).symm, HG.out⟩
theorem not_rls_len {l : List Sup} {r : Rls} (h : ¬ (chk l = 0 ∧ r.on.length = l.length ∧ r.level.length = l.length)) : ¬ RlsOk l r := fun hr => h ⟨hr.1, hr.2.1, hr.2.2.1⟩
theorem dec_false {p : Prop} (h : ¬ p) : false = decide p := by simp [h]
theorem dec_true {p : Prop} (h : p) : true = decide p := by simp [h]
theorem refRails_any (l : List Sup) (r : Rls) (ao a1 a2 : Option Addr) (cap c1 c2 : Nat) (w : World) (h : SlOf 5 RSup w ao l) (hf : Fit l.length) (h1 : SlOf 1 RB w a1 r.on) (h2 : SlOf 1 RI w a2 r.level) (f1 : Fit r.on.length) (f2 : Fit r.level.length) :
    Calls Try.prog 19 #[.slice ao l.length cap, .agg #[.slice a1 r.on.length c1, .slice a2 r.level.length c2]] w (Grows w (.bool (decide (RlsOk l r)))) := by
  have H := Lib.hid h
  have H2 := Lib.hid h2
  have cw := chk_wide l
  have hF := Lib.hid hf
  unfold Fit at hf f1 f2
  clear h h1 h2
  by_cases hc : chk l = 0 ∧ r.on.length = l.length ∧ r.level.length = l.length
  · obtain ⟨g1, g2, g3⟩ := hc
    have G := Lib.hid (And.intro g1 (And.intro g2 g3))
    have g2b : ((r.on.length : Int) != (l.length : Int)) = false := by simp [g2]
    have g3b : ((r.level.length : Int) != (l.length : Int)) = false := by simp [g3]
    clear g2 g3
    go_enter Try.func19, Try.ntmps19
    go_wp2_with fail
    refine (refCheck_anyZ l ao cap _ (sups_gr H.out (by repeat (first | with_reducible exact Gr.refl _ | with_reducible refine Gr.alloc _ ?_))) hF.out).mono ?_
    rw [g1]
    rintro e w' ⟨rfl, O1, d1, rfl⟩
    go_wp2_with fail
    clear g1 g2b g3b
    obtain ⟨w0, hw0⟩ : ∃ w0 : World, Hid (w0 = w.alloc (.cells #[.slice a1 r.on.length c1, .slice a2 r.level.length c2] 31)) := ⟨_, Lib.hid rfl⟩
    go_loopw [28] (fun i wr => ∃ k : Nat, k ≤ l.length ∧ i = .int .i64 k ∧ (∀ j (q1 : j < l.length) (q2 : j < r.level.length), j < k → 0 ≤ r.level[j] ∧ r.level[j] ≤ (l[j].levels.length : Int) - 1) ∧ Gr w0 wr) (fun i _ => l.length - (intOf i).toNat)
    case atStart => exact ⟨0, Nat.zero_le _, rfl, fun j _ _ q => absurd q (by omega), by rw [hw0.out]; exact (Gr.refl _).xt _ _⟩
    case round =>
      obtain ⟨k, hk, rfl, hall, hg⟩ := hrel
      have HA := Lib.hid hall
      have G0 := Lib.hid hg
      have e1 : wr.cell? ⟨w.heap.size, 1, none⟩ = some (.slice a2 r.level.length c2) := by rw [hw0.out] at hg; exact cell_gr hg (by simp [go_sem])
      have HG : Hid (Gr w wr) := Lib.hid (((Gr.refl w).alloc _).trans (hw0.out ▸ hg))
      clear hall hg
      have e1h := has_of_cell e1
      by_cases hlt : k < l.length
      · have hlt2 : k < r.level.length := by have := G.out.2.2; omega
        obtain ⟨b, o, rfl, ⟨c0, _⟩, ⟨al, cl, c1, c1l, c1f, cL⟩, ⟨c2, _⟩, ⟨c3, _⟩, c4⟩ := sups_gr H.out HG.out k hlt
        unfold RB at c4
        unfold Fit at c1f
        obtain ⟨bl, ol, rfl, ⟨d1, d1w, d1x⟩⟩ := (H2.out.giI HG.out).one k hlt2
        have d1h := has_of_cell d1
        have G0' := G0
        go_wp2_with fail
        refine wp_region_grows (by kernel_rfl) (by kernel_rfl) ?_
        repeat (go_big_quiet_step ((go_at_call 50; exact calls_same (in_anyZ _ _ _ _))))
        refine wpQuiet_nil ?_
        rintro _ ⟨⟨O5, d5⟩, rfl⟩
        go_wp2_with fail
        all_goals (try simp only [Bool.not_eq_eq_eq_not, Bool.not_false, Bool.not_true, decide_eq_true_eq, decide_eq_false_iff_not, Bool.and_eq_true, Bool.and_eq_false_iff] at *)
        all_goals first
          | (go_ret; exact ⟨ret_bool (dec_false (fun hr => by have := hr.2.2.2 k hlt hlt2; omega)), by repeat (first | with_reducible exact HG.out | with_reducible refine Gr.alloc _ ?_ | with_reducible refine Gr.xt _ _ ?_)⟩)
          | (go_roundw; (case rel => exact ⟨k + 1, by omega, by go_num, fun j q1 q2 hj => by (by_cases e : j = k); (· subst e; omega); (· exact HA.out j q1 q2 (by omega)), by repeat (first | with_reducible exact G0'.out | with_reducible refine Gr.alloc _ ?_ | with_reducible refine Gr.xt _ _ ?_)⟩); (case measure => simp [intOf]; omega))
      · go_wp2_with fail
        go_ret
        exact ⟨ret_bool (dec_true ⟨G.out.1, G.out.2.1, G.out.2.2, fun j q1 q2 => HA.out j q1 q2 (by omega)⟩), HG.out⟩
  · have hN := Lib.hid (not_rls_len hc)
    by_cases g1 : chk l = 0
    · by_cases g2 : r.on.length = l.length
      · have g2b : ((r.on.length : Int) != (l.length : Int)) = false := by simp [g2]
        have g3b : ((r.level.length : Int) != (l.length : Int)) = true := by simp; omega
        clear g2 hc
        go_enter Try.func19, Try.ntmps19
        go_wp2_with fail
        refine (refCheck_anyZ l ao cap _ (sups_gr H.out (by repeat (first | with_reducible exact Gr.refl _ | with_reducible refine Gr.alloc _ ?_))) hF.out).mono ?_
        rw [g1]
        rintro e w' ⟨rfl, O1, d1, rfl⟩
        go_wp2_with fail
        go_ret
        exact ⟨ret_bool (dec_false hN.out), by repeat (first | with_reducible exact Gr.refl _ | with_reducible refine Gr.alloc _ ?_ | with_reducible refine Gr.xt _ _ ?_)⟩
      · have g2b : ((r.on.length : Int) != (l.length : Int)) = true := by simp; omega
        clear g2 hc
        go_enter Try.func19, Try.ntmps19
        go_wp2_with fail
        refine (refCheck_anyZ l ao cap _ (sups_gr H.out (by repeat (first | with_reducible exact Gr.refl _ | with_reducible refine Gr.alloc _ ?_))) hF.out).mono ?_
        rw [g1]
        rintro e w' ⟨rfl, O1, d1, rfl⟩
        go_wp2_with fail
        go_ret
        exact ⟨ret_bool (dec_false hN.out), by repeat (first | with_reducible exact Gr.refl _ | with_reducible refine Gr.alloc _ ?_ | with_reducible refine Gr.xt _ _ ?_)⟩
    · have g1b : (chk l != 0) = true := by simp [g1]
      clear g1 hc
      go_enter Try.func19, Try.ntmps19
      go_wp2_with fail
      refine (refCheck_anyZ l ao cap _ (sups_gr H.out (by repeat (first | with_reducible exact Gr.refl _ | with_reducible refine Gr.alloc _ ?_))) hF.out).mono ?_
      rintro e w' ⟨rfl, O1, d1, rfl⟩
      go_wp2_with fail
      go_ret
      exact ⟨ret_bool (dec_false hN.out), by repeat (first | with_reducible exact Gr.refl _ | with_reducible refine Gr.alloc _ ?_ | with_reducible refine Gr.xt _ _ ?_)⟩
theorem refDraws_any (l : List Sup) (d : List Drw) (ao a1 : Option Addr) (cap c1 : Nat) (w : World) (h : SlOf 5 RSup w ao l) (hf : Fit l.length) (h1 : SlOf 4 RDrw w a1 d) (f1 : Fit d.length) :
    Calls Try.prog 46 #[.slice ao l.length cap, .slice a1 d.length c1] w (Grows w (.bool (decide (DrwsOk l d)))) := by
  have H := Lib.hid h
  have H1 := Lib.hid h1
  have cw := chk_wide l
  have hF := Lib.hid hf
  unfold Fit at hf f1
  clear h h1
  by_cases g1 : chk l = 0
  · by_cases g2 : d.length ≤ 32
    · have G := Lib.hid g1
      go_enter Try.func46, Try.ntmps46
      go_wp2_with fail
      refine (refCheck_anyZ l ao cap _ H.out hF.out).mono ?_
      rw [g1]
      rintro e w' ⟨rfl, O1, d1, rfl⟩
      go_wp2_with fail
      clear g1
      go_loopw [17] (fun i wr => ∃ k : Nat, k ≤ d.length ∧ i = .int .i64 k ∧ (∀ j (q1 : j < d.length), j < k → DrwOk l d[j]) ∧ Gr w wr) (fun i _ => d.length - (intOf i).toNat)
      case atStart => exact ⟨0, Nat.zero_le _, rfl, fun j _ q => absurd q (by omega), (Gr.refl _).xt _ _⟩
      case round =>
        obtain ⟨k, hk, rfl, hall, hg⟩ := hrel
        have HA := Lib.hid hall
        have HG := Lib.hid hg
        clear hall hg
        by_cases hlt : k < d.length
        · obtain ⟨b, o, rfl, ⟨c0, _⟩, ⟨c1, _⟩, ⟨c2, _⟩, ⟨c3, _⟩⟩ := drws_gr H1.out HG.out k hlt
          go_wp2_with (go_at_call 50; refine (in_anyZ _ _ _ _).mono ?_; rintro e w' ⟨rfl, rfl⟩)
          all_goals (try simp only [Bool.not_eq_eq_eq_not, Bool.not_false, Bool.not_true, decide_eq_true_eq, decide_eq_false_iff_not, Bool.and_eq_true, Bool.and_eq_false_iff] at *)
          all_goals first
            | (go_ret; exact ⟨ret_bool (dec_false (fun hr => by have := hr.2.2 k hlt; unfold DrwOk at this; omega)), by repeat (first | with_reducible exact HG.out | with_reducible refine Gr.alloc _ ?_ | with_reducible refine Gr.xt _ _ ?_)⟩)
            | (go_roundw; (case rel => exact ⟨k + 1, by omega, by go_num, fun j q1 hj => by (by_cases e : j = k); (· subst e; unfold DrwOk; omega); (· exact HA.out j q1 (by omega)), by repeat (first | with_reducible exact HG.out | with_reducible refine Gr.alloc _ ?_ | with_reducible refine Gr.xt _ _ ?_)⟩); (case measure => simp [intOf]; omega))
        · go_wp2_with fail
          go_ret
          exact ⟨ret_bool (dec_true ⟨G.out, g2, fun j q1 => HA.out j q1 (by omega)⟩), HG.out⟩
    · go_enter Try.func46, Try.ntmps46
      go_wp2_with fail
      refine (refCheck_anyZ l ao cap _ H.out hF.out).mono ?_
      rw [g1]
      rintro e w' ⟨rfl, O1, d1, rfl⟩
      go_wp2_with fail
      go_ret
      exact ⟨ret_bool (dec_false (fun hr => g2 hr.2.1)), (Gr.refl _).xt _ _⟩
  · have g1b : (chk l != 0) = true := by simp [g1]
    have G := Lib.hid g1
    clear g1
    go_enter Try.func46, Try.ntmps46
    go_wp2_with fail
    refine (refCheck_anyZ l ao cap _ H.out hF.out).mono ?_
    rintro e w' ⟨rfl, O1, d1, rfl⟩
    go_wp2_with fail
    go_ret
    exact ⟨ret_bool (dec_false (fun hr => G.out hr.1)), (Gr.refl _).xt _ _⟩
theorem infoBool : (Try.prog.info? 4).map (fun i => (i.zero, i.size, i.bytes)) = some (some (.bool false), 1, 1) := by kernel_rfl
theorem infoInt : (Try.prog.info? 3).map (fun i => (i.zero, i.size, i.bytes)) = some (some (.int .i64 0), 1, 8) := by kernel_rfl
theorem made_list (z : Value) (n : Nat) : (madeCells #[z] n).toList = List.replicate n z := by
  apply List.ext_getElem
  · simp [madeCells]
  · intro i h1 h2
    simp [madeCells, Nat.mod_one]
theorem Row.slB {w : World} {B T : Nat} {vs : List Bool} (h : Row w B T (bools vs)) : SlOf 1 RB w (some ⟨B, 0, none⟩) vs := fun k hk => ⟨B, 0, rfl, by rw [Nat.mul_one, Nat.zero_add]; exact h.bat k hk⟩
theorem Row.slI {w : World} {B T : Nat} {vs : List Int} (h : Row w B T (nums vs)) (hw : ∀ k (hk : k < vs.length), Wide vs[k]) : SlOf 1 RI w (some ⟨B, 0, none⟩) vs := fun k hk => ⟨B, 0, rfl, by rw [Nat.mul_one, Nat.zero_add]; exact ⟨h.iat k hk, hw k hk⟩⟩
def Hit (d : List Drw) (i m : Nat) : Prop := ∃ k, k < m ∧ ∃ h : k < d.length, d[k].supply = (i : Int)
theorem hit_all (d : List Drw) (i : Nat) : Hit d i d.length ↔ ∃ x ∈ d, x.supply = (i : Int) := by
  constructor
  · rintro ⟨k, _, h, e⟩; exact ⟨d[k], List.getElem_mem h, e⟩
  · rintro ⟨x, hx, e⟩
    obtain ⟨k, h, rfl⟩ := List.getElem_of_mem hx
    exact ⟨k, h, h, e⟩
theorem hit_succ (d : List Drw) (i m : Nat) (h : m < d.length) : Hit d i (m + 1) ↔ Hit d i m ∨ d[m].supply = (i : Int) := by
  constructor
  · rintro ⟨k, h1, h2, e⟩
    by_cases q : k = m
    · subst q; exact .inr e
    · exact .inl ⟨k, by omega, h2, e⟩
  · rintro (⟨k, h1, h2, e⟩ | e)
    · exact ⟨k, by omega, h2, e⟩
    · exact ⟨m, by omega, h, e⟩
theorem refUsed_any (l : List Sup) (d : List Drw) (ao a1 : Option Addr) (cap c1 : Nat) (w : World) (h : SlOf 5 RSup w ao l) (hf : l.length ≤ 16) (hok : AllOkZ l) (h1 : SlOf 4 RDrw w a1 d) (f1 : d.length ≤ 32) :
    Calls Try.prog 58 #[.slice ao l.length cap, .slice a1 d.length c1] w (GivesSl 1 RB w (usedL l d)) := by
  have H := Lib.hid h
  have H1 := Lib.hid h1
  have OK := Lib.hid hok
  clear h h1 hok
  have hmk := run_make_row' (P := Try.prog) 29 4 (.bool false) 1 Try.underlying29 infoBool rfl .i64 .i64 l.length (by omega) (by omega)
  go_enter Try.func58, Try.ntmps58
  go_wp2_with fail
  clear hmk
  go_loopw [6] (fun i wr => ∃ n : Nat, n ≤ l.length ∧ i = .int .i64 ((n : Int) - 1) ∧ Gr w wr ∧ ∃ vs, Row wr w.heap.size 4 (bools vs) ∧ UInv l d (fun _ => False) n vs) (fun i _ => (intOf i + 1).toNat)
  case atStart =>
    refine ⟨l.length, Nat.le_refl _, rfl, (Gr.refl _).alloc _, List.replicate l.length false, ?_, UInv.start l d⟩
    have := Row.new w (madeCells #[.bool false] l.length) 4
    rw [made_list] at this
    simpa [bools] using this
  case round =>
    obtain ⟨n, hn, rfl, hg, vs, hrow, hinv⟩ := hrel
    have HG := Lib.hid hg
    have HR := Lib.hid hrow
    have HI := Lib.hid hinv
    clear hg hrow hinv
    cases n with
    | zero =>
      go_wp2_with fail
      go_ret
      refine ⟨some ⟨w.heap.size, 0, none⟩, l.length, ?_, by rw [usedL_len]; exact Nat.le_refl _, by rw [usedL_len]; unfold Fit; omega, ?_, HG.out⟩
      · rw [usedL_len]; rfl
      · rw [← HI.out.done]; exact HR.out.slB
    | succ i =>
      rw [show ((i + 1 : Nat) : Int) - 1 = (i : Int) by omega]
      have hvl : i < vs.length := by have := HI.out.1; omega
      obtain ⟨b, o, rfl, hsall⟩ := H.out.all (by omega)
      have HS := Lib.hid (hsall i hn)
      clear hsall
      obtain ⟨⟨c0, c0w, c0x⟩, ⟨al, cl, q1, q1l, q1f, cL⟩, ⟨c2, _⟩, ⟨c3, _⟩, c4⟩ := RSup.mono _ _ _ _ _ HG.out HS.out
      unfold RB at c4
      have r0 := HR.out.bat i hvl
      have r1 := HR.out.free i
      have r2 := HR.out.has
      have hi0 : (0 : Int) ≤ i := by omega
      have hib : (i : Int) < l.length := by omega
      obtain ⟨wo, rfl⟩ : ∃ wo : World, wo = wr := ⟨_, rfl⟩
      go_upto_region 5 with fail
      go_cut [] (fun wx => wx = wo.setCell ⟨w.heap.size, i, none⟩ (.bool (vs[i] || l[i].always)))
      case first =>
        cases hvi : vs[i] with
        | true =>
          rw [hvi] at r0
          go_wp2_with fail
          go_meet
          first | rfl | simp [hvi]
        | false =>
          rw [hvi] at r0
          go_wp2_with fail
          go_meet
          first | rfl | simp [hvi]
      case rest =>
        have hg1 : Gr w wc := by rw [hcut]; exact HG.out.setCell (Nat.le_refl _) _
        have hr1 := HR.out.bset i (vs[i] || l[i].always)
        rw [← hcut] at hr1
        have HG1 := Lib.hid hg1
        have HR1 := Lib.hid hr1
        clear hg1 hr1 hcut r0 r1 r2 c0 c2 c3 c4 q1
        go_wp2_with fail
        go_loopw [36] (fun i' wr => ∃ m : Nat, m ≤ d.length ∧ i' = .int .i64 m ∧ Gr w wr ∧ ∃ bb : Bool, Row wr w.heap.size 4 (bools (vs.set i bb)) ∧ (bb = true ↔ (vs[i] || l[i].always) = true ∨ Hit d i m)) (fun i' _ => d.length - (intOf i').toNat)
        case atStart => exact ⟨0, Nat.zero_le _, rfl, HG1.out, _, HR1.out, ⟨fun h => .inl h, fun h => h.elim id (fun ⟨k, hk, _⟩ => by omega)⟩⟩
        case round =>
          clear HG1 HR1
          obtain ⟨m, hm, rfl, hg, bb, hrow, hbb⟩ := hrel
          have HG1 := Lib.hid hg
          have HR1 := Lib.hid hrow
          have HB := Lib.hid hbb
          clear hg hrow hbb
          have hvl' : i < (vs.set i bb).length := by simpa using hvl
          have s0 := HR1.out.bat i hvl'
          rw [List.getElem_set_self] at s0
          have s1 := HR1.out.free i
          have s2 := HR1.out.has
          by_cases hlt : m < d.length
          · obtain ⟨b', o', rfl, ⟨e0, _⟩, ⟨e1, _⟩, ⟨e2, _⟩, ⟨e3, _⟩⟩ := drws_gr H1.out HG1.out m hlt
            have fin : ∀ b2 : Bool, (b2 = true ↔ bb = true ∨ d[m].supply = (i : Int)) → ∀ W : World, Gr w W → Row W w.heap.size 4 (bools ((vs.set i bb).set i b2)) → ∃ bb : Bool, Row W w.heap.size 4 (bools (vs.set i bb)) ∧ (bb = true ↔ (vs[i] || l[i].always) = true ∨ Hit d i (m + 1)) := fun b2 hb2 W _ hr => by
              refine ⟨b2, by simpa using hr, ?_⟩
              rw [hb2, HB.out, hit_succ d i m hlt, or_assoc]
            have FIN := Lib.hid fin
            clear fin
            have hif : (i : Int) < 16 := by omega
            cases bb with
            | true =>
              go_wp2_with fail
              go_roundw
              case rel => exact ⟨m + 1, by omega, by go_num, (HG1.out.setCell (Nat.le_refl _) _).alloc _, FIN.out true (by simp) _ ((HG1.out.setCell (Nat.le_refl _) _).alloc _) ((HR1.out.bset i true).gr ((Gr.refl _).alloc _))⟩
              case measure => simp [intOf]; omega
            | false =>
              go_wp2_with fail
              go_roundw
              case rel => exact ⟨m + 1, by omega, by go_num, (HG1.out.setCell (Nat.le_refl _) _).alloc _, FIN.out (d[m].supply == (i : Int)) (by simp) _ ((HG1.out.setCell (Nat.le_refl _) _).alloc _) ((HR1.out.bset i _).gr ((Gr.refl _).alloc _))⟩
              case measure => simp [intOf]; omega
          · obtain ⟨⟨c0, c0w, c0x⟩, _⟩ := RSup.mono _ _ _ _ _ HG1.out HS.out
            have hU : bb = true ↔ Used l d i := by
              have hm' : m = d.length := by omega
              rw [HB.out, hm', hit_all, used_here hn]
              have := (HI.out.2 i hvl).2 (by omega)
              simp only [false_or] at this
              simp only [Bool.or_eq_true, this]
              constructor
              · rintro ((q | q) | q)
                · exact .inr (.inr q)
                · exact .inl q
                · exact .inr (.inl q)
              · rintro (q | q | q)
                · exact .inl (.inr q)
                · exact .inr q
                · exact .inl (.inl q)
            have HU := Lib.hid hU
            clear hU
            have HH : HeadOk l[i] i := by obtain ⟨_, q⟩ := OK.out i hn; exact q.1
            have p0 := HH.1
            have p1 := HH.2.1
            clear HH
            by_cases hp : bb = true ∧ 0 ≤ l[i].parent
            · obtain ⟨rfl, hp0⟩ := hp
              obtain ⟨p, hpp⟩ := Int.eq_ofNat_of_zero_le hp0
              have PP := Lib.hid hpp
              rw [hpp] at c0 p1
              clear hpp hp0 p0 c0w c0x
              have hpl : p < (vs.set i true).length := by simp; omega
              have t0 := HR1.out.bat p hpl
              have t1 := HR1.out.free p
              have hpi : (p : Int) < l.length := by omega
              go_wp2_with fail
              go_roundw
              case rel => exact ⟨i, by omega, by go_num, HG1.out.setCell (Nat.le_refl _) _, _, HR1.out.bset p true, HI.out.step1 hn true HU.out rfl p PP.out (by omega)⟩
              case measure => simp [intOf]
            · have hN := Lib.hid (HI.out.step0 hn bb HU.out hp)
              cases bb with
              | true =>
                have hp' : l[i].parent < 0 := by simp at hp; exact hp
                go_wp2_with fail
                go_roundw
                case rel => exact ⟨i, by omega, by go_num, HG1.out, _, HR1.out, hN.out⟩
                case measure => simp [intOf]
              | false =>
                go_wp2_with fail
                go_roundw
                case rel => exact ⟨i, by omega, by go_num, HG1.out, _, HR1.out, hN.out⟩
                case measure => simp [intOf]
theorem row_start (w : World) (n : Nat) : Row (w.alloc (.cells (madeCells #[.int .i64 0] n) 3)) w.heap.size 3 (nums (List.replicate n 0)) := by
  have := Row.new w (madeCells #[.int .i64 0] n) 3
  rw [made_list] at this
  simpa [nums] using this
theorem refLoads_any (l : List Sup) (d : List Drw) (ao a1 : Option Addr) (cap c1 : Nat) (w : World) (h : SlOf 5 RSup w ao l) (hf : l.length ≤ 16) (hok : AllOkZ l) (h1 : SlOf 4 RDrw w a1 d) (f1 : d.length ≤ 32) (hd : ∀ k (h : k < d.length), 0 ≤ d[k].load ∧ d[k].load ≤ 10000) :
    Calls Try.prog 73 #[.slice ao l.length cap, .slice a1 d.length c1] w (GivesSl 1 RI w (loadsL l d)) := by
  have H := Lib.hid h
  have H1 := Lib.hid h1
  have OK := Lib.hid hok
  have HD := Lib.hid hd
  clear h h1 hok hd
  have hmk := run_make_row' (P := Try.prog) 22 3 (.int .i64 0) 8 Try.underlying22 infoInt rfl .i64 .i64 l.length (by omega) (by omega)
  go_enter Try.func73, Try.ntmps73
  go_wp2_with fail
  clear hmk
  go_loopw [6] (fun i wr => ∃ n : Nat, n ≤ l.length ∧ i = .int .i64 ((n : Int) - 1) ∧ Gr w wr ∧ ∃ vs, Row wr w.heap.size 3 (nums vs) ∧ LInv l d (fun _ => 0) n vs) (fun i _ => (intOf i + 1).toNat)
  case atStart => exact ⟨l.length, Nat.le_refl _, rfl, (Gr.refl _).alloc _, List.replicate l.length 0, row_start w l.length, LInv.start l d⟩
  case round =>
    obtain ⟨n, hn, rfl, hg, vs, hrow, hinv⟩ := hrel
    have HG := Lib.hid hg
    have HR := Lib.hid hrow
    have HI := Lib.hid hinv
    clear hg hrow hinv
    cases n with
    | zero =>
      go_wp2_with fail
      go_ret
      refine ⟨some ⟨w.heap.size, 0, none⟩, l.length, ?_, by rw [loadsL_len]; exact Nat.le_refl _, by rw [loadsL_len]; unfold Fit; omega, ?_, HG.out⟩
      · rw [loadsL_len]; rfl
      · rw [← HI.out.done]
        refine HR.out.slI fun k hk => ?_
        have e := (HI.out.2 k hk).1 (Nat.zero_le _)
        have b := ld_small l d HD.out f1 hf k (by have := HI.out.1; omega)
        rw [e]; unfold Wide; omega
    | succ i =>
      rw [show ((i + 1 : Nat) : Int) - 1 = (i : Int) by omega]
      have hvl : i < vs.length := by have := HI.out.1; omega
      obtain ⟨b, o, rfl, hsall⟩ := H.out.all (by omega)
      have HS := Lib.hid (hsall i hn)
      clear hsall
      have hi0 : (0 : Int) ≤ i := by omega
      have hib : (i : Int) < l.length := by omega
      have vi : vs[i] = up l d (i + 1) i := by have := (HI.out.2 i hvl).2 (by omega); simpa using this
      have ub := up_small l d HD.out f1 hf (i + 1) i
      rw [← vi] at ub
      have VI := Lib.hid vi
      clear vi
      have ub0 := ub.1
      have ub1 := ub.2
      clear ub
      obtain ⟨wo, rfl⟩ : ∃ wo : World, wo = wr := ⟨_, rfl⟩
      go_wp2_with fail
      go_loopw [22] (fun i' wr => ∃ m : Nat, m ≤ d.length ∧ i' = .int .i64 m ∧ Gr w wr ∧ Row wr w.heap.size 3 (nums (vs.set i (vs[i] + ownTo d i m)))) (fun i' _ => d.length - (intOf i').toNat)
      case atStart => exact ⟨0, Nat.zero_le _, rfl, HG.out, by simp [ownTo]; exact HR.out⟩
      case round =>
        clear HG HR
        obtain ⟨m, hm, rfl, hg, hrow⟩ := hrel
        have HG1 := Lib.hid hg
        have HR1 := Lib.hid hrow
        clear hg hrow
        have ow := ownTo_wide d HD.out i m
        obtain ⟨x, hx⟩ : ∃ x, vs[i] + ownTo d i m = x := ⟨_, rfl⟩
        have hvl' : i < (vs.set i x).length := by simpa using hvl
        have HX := Lib.hid hx
        rw [hx] at HR1
        have x0 : 0 ≤ x := by omega
        have x1 : x ≤ 20972000000 := by omega
        clear hx
        have s0 := HR1.out.iat i hvl'
        rw [List.getElem_set_self] at s0
        have s1 := HR1.out.free i
        have s2 := HR1.out.has
        by_cases hlt : m < d.length
        · obtain ⟨b', o', rfl, ⟨e0, _⟩, ⟨e1, _⟩, ⟨e2, _⟩, ⟨e3, _⟩⟩ := drws_gr H1.out HG1.out m hlt
          have hld := HD.out m hlt
          by_cases hs : d[m].supply = (i : Int)
          · have hsb : (d[m].supply == (i : Int)) = true := by simp [hs]
            have hN : x + d[m].load = vs[i] + ownTo d i (m + 1) := by
              have := HX.out
              simp only [ownTo, hlt, dif_pos, if_pos hs]; omega
            have HN := Lib.hid hN
            have l0 := hld.1
            have l1 := hld.2
            clear hs hN hld
            go_wp2_with fail
            go_region
            all_goals go_wp2_with fail
            all_goals go_roundw
            case rel =>
              refine ⟨m + 1, by omega, by go_num, ?_, ?_⟩
              · repeat (first | with_reducible exact HG1.out | with_reducible refine Gr.setCell (Nat.le_refl _) _ ?_ | with_reducible refine Gr.alloc _ ?_ | with_reducible refine Gr.drew ?_)
              · rw [← HN.out]
                have := (HR1.out.iset i (x + d[m].load))
                rw [List.set_set] at this
                exact this.gr (by repeat (first | with_reducible exact Gr.refl _ | with_reducible refine Gr.alloc _ ?_ | with_reducible refine Gr.drew ?_))
            case measure => simp [intOf]; omega
          · have hsb : (d[m].supply == (i : Int)) = false := by simp [hs]
            have hN : x = vs[i] + ownTo d i (m + 1) := by
              have := HX.out
              simp only [ownTo, hlt, dif_pos, if_neg hs]; omega
            have HN := Lib.hid hN
            clear hs hN hld
            go_wp2_with fail
            go_roundw
            case rel => exact ⟨m + 1, by omega, by go_num, HG1.out.alloc _, by rw [← HN.out]; exact HR1.out.gr ((Gr.refl _).alloc _)⟩
            case measure => simp [intOf]; omega
        · obtain ⟨⟨c0, c0w, c0x⟩, _⟩ := RSup.mono _ _ _ _ _ HG1.out HS.out
          have hxl : x = ld l d i := by
            have hm' : m = d.length := by omega
            rw [ld_eq l d i hn, ← HX.out, VI.out, hm']; unfold own; omega
          have HH : HeadOk l[i] i := by obtain ⟨_, q⟩ := OK.out i hn; exact q.1
          have p0 := HH.1
          have p1 := HH.2.1
          clear HH ow
          have XL := Lib.hid hxl
          clear hxl
          by_cases hp0 : 0 ≤ l[i].parent
          · obtain ⟨p, hpp⟩ := Int.eq_ofNat_of_zero_le hp0
            have PP := Lib.hid hpp
            rw [hpp] at c0 p1
            clear hpp hp0 p0 c0w c0x
            have hpv : p < vs.length := by have := HI.out.1; omega
            have hpl : p < (vs.set i x).length := by simpa using hpv
            have t0 := HR1.out.iat p hpl
            rw [List.getElem_set_ne (by omega)] at t0
            have t1 := HR1.out.free p
            have hpi : (p : Int) < l.length := by omega
            have vp : vs[p] = up l d (i + 1) p := by have := (HI.out.2 p hpv).2 (by omega); simpa using this
            have ub := up_small l d HD.out f1 hf (i + 1) p
            rw [← vp] at ub
            have ub2 := ub.1
            have ub3 := ub.2
            clear vp ub
            have hne : ¬ i = p := by omega
            go_wp2_with fail
            go_region
            all_goals go_wp2_with fail
            all_goals go_roundw
            case rel =>
              refine ⟨i, by omega, by go_num, ?_, (vs.set i x).set p (vs[p] + x), ?_, ?_⟩
              · repeat (first | with_reducible exact HG1.out | with_reducible refine Gr.setCell (Nat.le_refl _) _ ?_ | with_reducible refine Gr.alloc _ ?_ | with_reducible refine Gr.drew ?_)
              · exact (HR1.out.iset p _).gr (by repeat (first | with_reducible exact Gr.refl _ | with_reducible refine Gr.alloc _ ?_ | with_reducible refine Gr.drew ?_))
              · rw [XL.out]; exact HI.out.step1 hn p PP.out (by omega) hpv
            case measure => simp [intOf]
          · have hp' : l[i].parent < 0 := by omega
            have hN := Lib.hid (HI.out.step0 hn hp')
            go_wp2_with fail
            go_roundw
            case rel => exact ⟨i, by omega, by go_num, HG1.out, vs.set i x, HR1.out, by rw [XL.out]; exact hN.out⟩
            case measure => simp [intOf]
def vlt (l : List Sup) (r : Rls) (k : Nat) : Int := if h : k < l.length then l[k].levels.getD (r.level.getD k 0).toNat 0 else 0
def onAt (r : Rls) (k : Nat) : Bool := r.on.getD k false
def MeetAt (l : List Sup) (d : List Drw) (r : Rls) (i : Nat) : Prop :=
  (Used l d i → onAt r i = true) ∧ (onAt r i = true → ∀ h : i < l.length, ld l d i ≤ l[i].capacity ∧ (0 ≤ l[i].parent → onAt r l[i].parent.toNat = true ∧ vlt l r i + l[i].dropout ≤ vlt l r l[i].parent.toNat))
def DrawAt (l : List Sup) (r : Rls) (x : Drw) : Prop := x.low ≤ vlt l r x.supply.toNat ∧ vlt l r x.supply.toNat ≤ x.high
def MeetsP (l : List Sup) (r : Rls) (d : List Drw) : Prop := (∀ i, i < l.length → MeetAt l d r i) ∧ ∀ k (h : k < d.length), DrawAt l r d[k]
def MeetsAll (l : List Sup) (r : Rls) (d : List Drw) : Prop := DrwsOk l d ∧ RlsOk l r ∧ MeetsP l r d
theorem onAt_eq {r : Rls} {k : Nat} (h : k < r.on.length) : onAt r k = r.on[k] := by simp [onAt, h]
theorem rls_lv {l : List Sup} {r : Rls} (h : RlsOk l r) (k : Nat) (hk : k < l.length) : ∃ h' : k < r.level.length, ∃ n : Nat, r.level[k] = (n : Int) ∧ ∃ hn : n < l[k].levels.length, vlt l r k = l[k].levels[n] := by
  have h1 : k < r.level.length := by have := h.2.2.1; omega
  have h2 := h.2.2.2 k hk h1
  obtain ⟨n, hn⟩ := Int.eq_ofNat_of_zero_le h2.1
  refine ⟨h1, n, hn, by omega, ?_⟩
  simp only [vlt, hk, dif_pos, List.getD_eq_getElem?_getD, List.getElem?_eq_getElem h1, Option.getD_some, hn, Int.toNat_natCast]
  rw [List.getElem?_eq_getElem (by omega)]; rfl
theorem vlt_wide {l : List Sup} {r : Rls} (h : RlsOk l r) (k : Nat) (hk : k < l.length) : 1 ≤ vlt l r k ∧ vlt l r k ≤ 5000 := by
  obtain ⟨_, n, _, hn, hv⟩ := rls_lv h k hk
  obtain ⟨_, q⟩ := (chk_zero h.1).2 k hk
  obtain ⟨_, q1, q2, _⟩ := q.2 n hn
  rw [hv]; omega
theorem refVolts_any (l : List Sup) (r : Rls) (ao a1 a2 : Option Addr) (cap c1 c2 : Nat) (k : Nat) (w : World) (h : SlOf 5 RSup w ao l) (hf : l.length ≤ 16) (h2 : SlOf 1 RI w a2 r.level) (hr : RlsOk l r) (hk : k < l.length) :
    Calls Try.prog 60 #[.slice ao l.length cap, .agg #[.slice a1 r.on.length c1, .slice a2 r.level.length c2], .int .i64 k] w (Grows w (.int .i64 (vlt l r k))) := by
  obtain ⟨k1, n, hn, hn1, hv⟩ := rls_lv hr k hk
  have HV := Lib.hid hv
  have hll := hr.2.2.1
  obtain ⟨b, o, rfl, ⟨c0, _⟩, ⟨al, cl, q1, q1l, q1f, cL⟩, _⟩ := h k hk
  obtain ⟨b2, o2, rfl, ⟨e1, _⟩⟩ := h2.one k k1
  obtain ⟨b3, o3, rfl, ⟨e2, _⟩⟩ := cL.one n hn1
  rw [hn] at e1
  clear hv hn c0 hr
  have g0 : (0 : Int) ≤ k := by omega
  have g1 : (k : Int) < l.length := by omega
  have g2 : (k : Int) < r.level.length := by omega
  have g3 : (0 : Int) ≤ n := by omega
  have g4 : (n : Int) < l[k].levels.length := by omega
  have i1 := has_of_cell q1
  have i2 := has_of_cell e1
  have i3 := has_of_cell e2
  go_enter Try.func60, Try.ntmps60
  go_wp2_with fail
  go_quiet (fail)
  go_wp2_with fail
  go_ret
  exact ⟨ret_int HV.out.symm, by repeat (first | with_reducible exact Gr.refl _ | with_reducible refine Gr.alloc _ ?_ | with_reducible refine Gr.drewN _ ?_)⟩
theorem not_meet_at {l : List Sup} {r : Rls} {d : List Drw} {i : Nat} (hi : i < l.length) (h : ¬ MeetAt l d r i) : ¬ MeetsP l r d := fun hm => h (hm.1 i hi)
theorem not_draw_at {l : List Sup} {r : Rls} {d : List Drw} {k : Nat} (hk : k < d.length) (h : ¬ DrawAt l r d[k]) : ¬ MeetsP l r d := fun hm => h (hm.2 k hk)
theorem refMeets1_any (l : List Sup) (r : Rls) (d : List Drw) (ao a1 a2 a3 : Option Addr) (cap c1 c2 c3 : Nat) (w : World) (h : SlOf 5 RSup w ao l) (h1 : SlOf 1 RB w a1 r.on) (h2 : SlOf 1 RI w a2 r.level) (h3 : SlOf 4 RDrw w a3 d) (hr : RlsOk l r) (hd : DrwsOk l d) :
    Calls Try.prog 47 #[.slice ao l.length cap, .agg #[.slice a1 r.on.length c1, .slice a2 r.level.length c2], .slice a3 d.length c3] w (Grows w (.bool (decide (MeetsP l r d)))) := by
  have H := Lib.hid h
  have H1 := Lib.hid h1
  have H2 := Lib.hid h2
  have H3 := Lib.hid h3
  have HR := Lib.hid hr
  have HD := Lib.hid hd
  have hz := chk_zero hd.1
  have hf : l.length ≤ 16 := by
    have := hz.1
    simp only [BigZ, not_or] at this
    omega
  have OK := Lib.hid hz.2
  have f3 := hd.2.1
  have hon := Lib.hid hr.2.1
  have hlv := Lib.hid hr.2.2.1
  clear h h1 h2 h3 hr hd hz
  go_enter Try.func47, Try.ntmps47
  go_wp2_with fail
  refine (refUsed_any l d ao a3 cap c3 _ (sups_gr H.out ((Gr.refl _).alloc _)) hf OK.out (drws_gr H3.out ((Gr.refl _).alloc _)) f3).mono ?_
  rintro e w' ⟨au, cu, rfl, _, _, hu, O1, d1, rfl⟩
  have HU := Lib.hid hu
  clear hu
  rw [usedL_len]
  go_wp2_with fail
  refine (refLoads_any l d ao a3 cap c3 _ (sups_gr H.out (((Gr.refl _).alloc _).xt _ _)) hf OK.out (drws_gr H3.out (((Gr.refl _).alloc _).xt _ _)) f3 (fun k hk => by have := HD.out.2.2 k hk; unfold DrwOk at this; omega)).mono ?_
  rintro e w' ⟨al, cl, rfl, _, _, hl, O2, d2, rfl⟩
  have HL := Lib.hid hl
  clear hl
  rw [loadsL_len]
  go_wp2_with fail
  obtain ⟨w0, hw0⟩ : ∃ w0 : World, Hid (w0 = xt (w.alloc (.cells #[.slice a1 r.on.length c1, .slice a2 r.level.length c2] 31)) (O1 ++ O2) d2) := ⟨_, Lib.hid rfl⟩
  have HU0 : Hid (SlOf 1 RB w0 au (usedL l d)) := Lib.hid (by rw [hw0.out]; have := HU.out.giB (w' := xt (xt (w.alloc (.cells #[.slice a1 r.on.length c1, .slice a2 r.level.length c2] 31)) O1 d1) O2 d2) ((Gr.refl _).xt _ _); rwa [xt_xt] at this)
  have HL0 : Hid (SlOf 1 RI w0 al (loadsL l d)) := Lib.hid (by rw [hw0.out]; have := HL.out; rwa [xt_xt] at this)
  clear HU HL
  go_loopw [21] (fun i wr => ∃ k : Nat, k ≤ l.length ∧ i = .int .i64 k ∧ (∀ j, j < k → MeetAt l d r j) ∧ Gr w0 wr) (fun i _ => l.length - (intOf i).toNat)
  case atStart => exact ⟨0, Nat.zero_le _, rfl, fun j q => absurd q (by omega), by rw [hw0.out]; exact Gr.refl _⟩
  case round =>
    obtain ⟨k, hk, rfl, hall, hg⟩ := hrel
    have HA := Lib.hid hall
    have G0 := Lib.hid hg
    have e0 : wr.cell? ⟨w.heap.size, 0, none⟩ = some (.slice a1 r.on.length c1) := by rw [hw0.out] at hg; exact cell_gr hg (by simp [go_sem])
    have e1 : wr.cell? ⟨w.heap.size, 1, none⟩ = some (.slice a2 r.level.length c2) := by rw [hw0.out] at hg; exact cell_gr hg (by simp [go_sem])
    have HG : Hid (Gr w wr) := Lib.hid ((((Gr.refl w).alloc _).xt _ _).trans (hw0.out ▸ hg))
    have eh := has_of_cell e0
    clear hall hg
    by_cases hlt : k < l.length
    · have g0 : (0 : Int) ≤ k := by omega
      have g1 : (k : Int) < l.length := by omega
      have g2 : (k : Int) < r.on.length := by have := hon.out; omega
      have hko : k < r.on.length := by omega
      obtain ⟨b, o, rfl, ⟨c0, c0w, c0x⟩, ⟨av, cv, q1, q1l, q1f, cV⟩, ⟨c2, c2w, c2x⟩, ⟨c3, _⟩, c4⟩ := sups_gr H.out HG.out k hlt
      unfold RB at c4
      obtain ⟨bu, ou, rfl, u1⟩ := (HU0.out.giB G0.out).one k (by rw [usedL_len]; exact hlt)
      rw [usedL_at] at u1
      unfold RB at u1
      obtain ⟨bl, ol, rfl, ⟨v1, v1w, v1x⟩⟩ := (HL0.out.giI G0.out).one k (by rw [loadsL_len]; exact hlt)
      rw [loadsL_at] at v1 v1w v1x
      obtain ⟨bo, oo, rfl, r1⟩ := (H1.out.giB HG.out).one k hko
      unfold RB at r1
      have r1' : r.on[k] = onAt r k := (onAt_eq hko).symm
      rw [r1'] at r1
      clear r1'
      have x1 := has_of_cell c0
      have x2 := has_of_cell u1
      have x3 := has_of_cell v1
      have x4 := has_of_cell r1
      obtain ⟨uu, huu⟩ : ∃ uu : Bool, decide (Used l d k) = uu := ⟨_, rfl⟩
      obtain ⟨oo', hoo⟩ : ∃ oo' : Bool, onAt r k = oo' := ⟨_, rfl⟩
      rw [huu] at u1
      rw [hoo] at r1
      have UU := Lib.hid huu
      have OO := Lib.hid hoo
      clear huu hoo
      have HH : HeadOk l[k] k := by obtain ⟨_, q⟩ := OK.out k hlt; exact q.1
      have p1 := HH.2.1
      have dr0 := HH.2.2.2.1
      have dr1 := HH.2.2.2.2.1
      clear HH
      cases oo' with
      | false =>
        cases uu with
        | true =>
          go_wp2_with fail
          go_ret
          exact ⟨ret_bool (dec_false (not_meet_at hlt (fun hm => by have := hm.1 (by simpa using UU.out); rw [OO.out] at this; cases this))), by repeat (first | with_reducible exact HG.out | with_reducible refine Gr.alloc _ ?_ | with_reducible refine Gr.xt _ _ ?_)⟩
        | false =>
          go_wp2_with fail
          go_roundw
          case rel =>
            refine ⟨k + 1, by omega, by go_num, fun j hj => ?_, by repeat (first | with_reducible exact G0.out | with_reducible refine Gr.alloc _ ?_ | with_reducible refine Gr.xt _ _ ?_)⟩
            by_cases e : j = k
            · subst e; exact ⟨fun hu => absurd hu (by simpa using UU.out), fun ho => by rw [OO.out] at ho; cases ho⟩
            · exact HA.out j (by omega)
          case measure => simp [intOf]; omega
      | true =>
        have OA := Lib.hid (OO.out)
        go_upto_region 5 with fail
        go_cut [37] (fun s37 wx => s37 = .bool false ∧ wx = wr.alloc (.cells #[.int .i64 l[k].parent, .slice av l[k].levels.length cv, .int .i64 l[k].dropout, .int .i64 l[k].capacity, .bool l[k].always] 70))
        case first =>
          cases uu with
          | true =>
            go_wp2_with fail
            go_meet
            exact ⟨rfl, rfl⟩
          | false =>
            go_wp2_with fail
            go_meet
            exact ⟨rfl, rfl⟩
        obtain ⟨rfl, rfl⟩ := hcut
        by_cases hcap : ld l d k ≤ l[k].capacity
        · have HC := Lib.hid hcap
          have hcb : decide (l[k].capacity < ld l d k) = false := by simp; exact hcap
          clear hcap
          by_cases hp : 0 ≤ l[k].parent
          · obtain ⟨p, hpp⟩ := Int.eq_ofNat_of_zero_le hp
            have PP := Lib.hid hpp
            rw [hpp] at c0 p1
            rw [hpp]
            clear hpp hp c0w c0x
            have hpl : p < l.length := by omega
            have hpo : p < r.on.length := by omega
            have g3 : (p : Int) < r.on.length := by omega
            obtain ⟨bo2, oo2, e, r2⟩ := (H1.out.giB HG.out).one p hpo
            cases e
            unfold RB at r2
            have r2' : r.on[p] = onAt r p := (onAt_eq hpo).symm
            rw [r2'] at r2
            clear r2'
            have vk := vlt_wide HR.out k hlt
            have vp := vlt_wide HR.out p hpl
            obtain ⟨op, hop⟩ : ∃ op : Bool, onAt r p = op := ⟨_, rfl⟩
            rw [hop] at r2
            have OP := Lib.hid hop
            clear hop
            cases op with
            | false =>
              go_wp2_with fail
              refine wp_region_grows (by kernel_rfl) (by kernel_rfl) ?_
              repeat (go_big_quiet_step (fail))
              refine wpQuiet_nil ?_
              rintro _ ⟨⟨O5, d5⟩, rfl⟩
              go_wp2_with fail
              go_ret
              exact ⟨ret_bool (dec_false (not_meet_at hlt (fun hm => by have := ((hm.2 OA.out hlt).2 (by rw [PP.out]; omega)).1; rw [PP.out, Int.toNat_natCast, OP.out] at this; cases this))), by repeat (first | with_reducible exact HG.out | with_reducible refine Gr.alloc _ ?_ | with_reducible refine Gr.xt _ _ ?_)⟩
            | true =>
              by_cases hv : vlt l r k + l[k].dropout ≤ vlt l r p
              · have HV := Lib.hid hv
                have hvb : decide (vlt l r p < vlt l r k + l[k].dropout) = false := by simp; omega
                clear hv
                go_wp2_with fail
                refine wp_region_grows (by kernel_rfl) (by kernel_rfl) ?_
                repeat (go_big_quiet_step ((go_at_call 60; exact calls_grows (refVolts_any l r _ _ _ _ _ _ _ _ (sups_gr H.out (by repeat (first | with_reducible exact HG.out | with_reducible refine Gr.alloc _ ?_ | with_reducible refine Gr.xt _ _ ?_))) hf (H2.out.giI (by repeat (first | with_reducible exact HG.out | with_reducible refine Gr.alloc _ ?_ | with_reducible refine Gr.xt _ _ ?_))) HR.out (by omega)))))
                refine wpQuiet_nil ?_
                rintro _ ⟨⟨O5, d5⟩, rfl⟩
                go_wp2_with fail
                go_roundw
                case rel =>
                  refine ⟨k + 1, by omega, by go_num, fun j hj => ?_, by repeat (first | with_reducible exact G0.out | with_reducible refine Gr.alloc _ ?_ | with_reducible refine Gr.xt _ _ ?_)⟩
                  by_cases e : j = k
                  · subst e; exact ⟨fun _ => OA.out, fun _ _ => ⟨HC.out, fun _ => by rw [PP.out, Int.toNat_natCast]; exact ⟨OP.out, HV.out⟩⟩⟩
                  · exact HA.out j (by omega)
                case measure => simp [intOf]; omega
              · have HV := Lib.hid hv
                have hvb : decide (vlt l r p < vlt l r k + l[k].dropout) = true := by simp; omega
                clear hv
                go_wp2_with fail
                refine wp_region_grows (by kernel_rfl) (by kernel_rfl) ?_
                repeat (go_big_quiet_step ((go_at_call 60; exact calls_grows (refVolts_any l r _ _ _ _ _ _ _ _ (sups_gr H.out (by repeat (first | with_reducible exact HG.out | with_reducible refine Gr.alloc _ ?_ | with_reducible refine Gr.xt _ _ ?_))) hf (H2.out.giI (by repeat (first | with_reducible exact HG.out | with_reducible refine Gr.alloc _ ?_ | with_reducible refine Gr.xt _ _ ?_))) HR.out (by omega)))))
                refine wpQuiet_nil ?_
                rintro _ ⟨⟨O5, d5⟩, rfl⟩
                go_wp2_with fail
                go_ret
                exact ⟨ret_bool (dec_false (not_meet_at hlt (fun hm => by have := ((hm.2 OA.out hlt).2 (by rw [PP.out]; omega)).2; rw [PP.out, Int.toNat_natCast] at this; have := HV.out; omega))), by repeat (first | with_reducible exact HG.out | with_reducible refine Gr.alloc _ ?_ | with_reducible refine Gr.xt _ _ ?_)⟩
          · have HP := Lib.hid hp
            have hpb : decide (0 ≤ l[k].parent) = false := by simp; omega
            clear hp
            go_wp2_with fail
            refine wp_region_grows (by kernel_rfl) (by kernel_rfl) ?_
            repeat (go_big_quiet_step (fail))
            refine wpQuiet_nil ?_
            rintro _ ⟨⟨O5, d5⟩, rfl⟩
            go_wp2_with fail
            go_roundw
            case rel =>
              refine ⟨k + 1, by omega, by go_num, fun j hj => ?_, by repeat (first | with_reducible exact G0.out | with_reducible refine Gr.alloc _ ?_ | with_reducible refine Gr.xt _ _ ?_)⟩
              by_cases e : j = k
              · subst e; exact ⟨fun _ => OA.out, fun _ _ => ⟨HC.out, fun q => by have := HP.out; omega⟩⟩
              · exact HA.out j (by omega)
            case measure => simp [intOf]; omega
        · have HC := Lib.hid hcap
          have hcb : decide (l[k].capacity < ld l d k) = true := by simp; omega
          clear hcap
          go_wp2_with fail
          refine wp_region_grows (by kernel_rfl) (by kernel_rfl) ?_
          repeat (go_big_quiet_step (fail))
          refine wpQuiet_nil ?_
          rintro _ ⟨⟨O5, d5⟩, rfl⟩
          go_wp2_with fail
          go_ret
          exact ⟨ret_bool (dec_false (not_meet_at hlt (fun hm => by have := (hm.2 OA.out hlt).1; have := HC.out; omega))), by repeat (first | with_reducible exact HG.out | with_reducible refine Gr.alloc _ ?_ | with_reducible refine Gr.xt _ _ ?_)⟩
    · have hAll : ∀ j, j < l.length → MeetAt l d r j := fun j hj => HA.out j (by omega)
      have HAll := Lib.hid hAll
      clear hAll HA e0 e1 eh HG
      obtain ⟨w1, rfl⟩ : ∃ w1 : World, w1 = wr := ⟨_, rfl⟩
      go_wp2_with fail
      go_loopw [83] (fun i wr => ∃ m : Nat, m ≤ d.length ∧ i = .int .i64 m ∧ (∀ j (hj : j < d.length), j < m → DrawAt l r d[j]) ∧ Gr w0 wr) (fun i _ => d.length - (intOf i).toNat)
      case atStart => exact ⟨0, Nat.zero_le _, rfl, fun j _ q => absurd q (by omega), G0.out⟩
      case round =>
        clear G0
        obtain ⟨m, hm, rfl, hall, hg⟩ := hrel
        have HA := Lib.hid hall
        have G0 := Lib.hid hg
        have e0 : wr.cell? ⟨w.heap.size, 0, none⟩ = some (.slice a1 r.on.length c1) := by rw [hw0.out] at hg; exact cell_gr hg (by simp [go_sem])
        have e1 : wr.cell? ⟨w.heap.size, 1, none⟩ = some (.slice a2 r.level.length c2) := by rw [hw0.out] at hg; exact cell_gr hg (by simp [go_sem])
        have HG : Hid (Gr w wr) := Lib.hid ((((Gr.refl w).alloc _).xt _ _).trans (hw0.out ▸ hg))
        have eh := has_of_cell e0
        clear hall hg
        by_cases hlt : m < d.length
        · obtain ⟨b, o, rfl, ⟨t0, _⟩, ⟨t1, _⟩, ⟨t2, _⟩, ⟨t3, _⟩⟩ := drws_gr H3.out HG.out m hlt
          have hdo := HD.out.2.2 m hlt
          unfold DrwOk at hdo
          obtain ⟨sn, hsn⟩ := Int.eq_ofNat_of_zero_le hdo.1
          have SN := Lib.hid hsn
          rw [hsn] at t0
          have hsl : sn < l.length := by omega
          clear hsn hdo
          have vw := vlt_wide HR.out sn hsl
          go_wp2_with fail
          refine wp_region_grows (by kernel_rfl) (by kernel_rfl) ?_
          repeat (go_big_quiet_step (first | (go_at_call 60; exact calls_grows (refVolts_any l r _ _ _ _ _ _ _ _ (sups_gr H.out (by repeat (first | with_reducible exact HG.out | with_reducible refine Gr.alloc _ ?_ | with_reducible refine Gr.xt _ _ ?_))) hf (H2.out.giI (by repeat (first | with_reducible exact HG.out | with_reducible refine Gr.alloc _ ?_ | with_reducible refine Gr.xt _ _ ?_))) HR.out (by omega))) | (go_at_call 50; exact calls_same (in_anyZ _ _ _ _))))
          refine wpQuiet_nil ?_
          rintro _ ⟨⟨O5, d5⟩, rfl⟩
          go_wp2_with fail
          all_goals (try simp only [Bool.not_eq_eq_eq_not, Bool.not_false, Bool.not_true, decide_eq_true_eq, decide_eq_false_iff_not, Bool.and_eq_true, Bool.and_eq_false_iff] at *)
          all_goals first
            | (go_ret; exact ⟨ret_bool (dec_false (not_draw_at hlt (fun hm => by unfold DrawAt at hm; rw [SN.out, Int.toNat_natCast] at hm; omega))), by repeat (first | with_reducible exact HG.out | with_reducible refine Gr.alloc _ ?_ | with_reducible refine Gr.xt _ _ ?_)⟩)
            | (go_roundw; (case rel => exact ⟨m + 1, by omega, by go_num, fun j q1 hj => by (by_cases e : j = m); (· subst e; unfold DrawAt; rw [SN.out, Int.toNat_natCast]; omega); (· exact HA.out j q1 (by omega)), by repeat (first | with_reducible exact G0.out | with_reducible refine Gr.alloc _ ?_ | with_reducible refine Gr.xt _ _ ?_)⟩); (case measure => simp [intOf]; omega))
        · go_wp2_with fail
          go_ret
          exact ⟨ret_bool (dec_true ⟨HAll.out, fun j hj => HA.out j hj (by omega)⟩), HG.out⟩
theorem refMeets_any (l : List Sup) (r : Rls) (d : List Drw) (ao a1 a2 a3 : Option Addr) (cap c1 c2 c3 : Nat) (w : World) (h : SlOf 5 RSup w ao l) (hf : Fit l.length) (h1 : SlOf 1 RB w a1 r.on) (h2 : SlOf 1 RI w a2 r.level) (h3 : SlOf 4 RDrw w a3 d) (f1 : Fit r.on.length) (f2 : Fit r.level.length) (f3 : Fit d.length) :
    Calls Try.prog 16 #[.slice ao l.length cap, .agg #[.slice a1 r.on.length c1, .slice a2 r.level.length c2], .slice a3 d.length c3] w (Grows w (.bool (decide (MeetsAll l r d)))) := by
  have H := Lib.hid h
  have H1 := Lib.hid h1
  have H2 := Lib.hid h2
  have H3 := Lib.hid h3
  clear h h1 h2 h3
  by_cases hd : DrwsOk l d
  · by_cases hr : RlsOk l r
    · have hdb : decide (DrwsOk l d) = true := by simp [hd]
      have hrb : decide (RlsOk l r) = true := by simp [hr]
      have e : decide (MeetsAll l r d) = decide (MeetsP l r d) := by simp [MeetsAll, hd, hr]
      have HD := Lib.hid hd
      have HR := Lib.hid hr
      rw [e]
      clear hd hr e
      go_enter Try.func16, Try.ntmps16
      go_wp2_with fail
      refine (refDraws_any l d ao a3 cap c3 _ (sups_gr H.out ((Gr.refl _).alloc _)) hf (drws_gr H3.out ((Gr.refl _).alloc _)) f3).mono ?_
      rw [hdb]
      rintro e w' ⟨rfl, O1, d1, rfl⟩
      go_wp2_with fail
      refine (refRails_any l r ao a1 a2 cap c1 c2 _ (sups_gr H.out (((Gr.refl _).alloc _).xt _ _)) hf (H1.out.giB (((Gr.refl _).alloc _).xt _ _)) (H2.out.giI (((Gr.refl _).alloc _).xt _ _)) f1 f2).mono ?_
      rw [hrb]
      rintro e w' ⟨rfl, O2, d2, rfl⟩
      go_wp2_with fail
      refine (refMeets1_any l r d ao a1 a2 a3 cap c1 c2 c3 _ (sups_gr H.out (((Gr.refl _).alloc _).xt _ _)) (H1.out.giB (((Gr.refl _).alloc _).xt _ _)) (H2.out.giI (((Gr.refl _).alloc _).xt _ _)) (drws_gr H3.out (((Gr.refl _).alloc _).xt _ _)) HR.out HD.out).mono ?_
      rintro e w' ⟨rfl, O3, d3, rfl⟩
      go_wp2_with fail
      go_ret
      exact ⟨rfl, by repeat (first | with_reducible exact Gr.refl _ | with_reducible refine Gr.alloc _ ?_ | with_reducible refine Gr.xt _ _ ?_)⟩
    · have hdb : decide (DrwsOk l d) = true := by simp [hd]
      have hrb : decide (RlsOk l r) = false := by simp [hr]
      have e : decide (MeetsAll l r d) = false := by simp [MeetsAll, hr]
      rw [e]
      clear hd hr e
      go_enter Try.func16, Try.ntmps16
      go_wp2_with fail
      refine (refDraws_any l d ao a3 cap c3 _ (sups_gr H.out ((Gr.refl _).alloc _)) hf (drws_gr H3.out ((Gr.refl _).alloc _)) f3).mono ?_
      rw [hdb]
      rintro e w' ⟨rfl, O1, d1, rfl⟩
      go_wp2_with fail
      refine (refRails_any l r ao a1 a2 cap c1 c2 _ (sups_gr H.out (((Gr.refl _).alloc _).xt _ _)) hf (H1.out.giB (((Gr.refl _).alloc _).xt _ _)) (H2.out.giI (((Gr.refl _).alloc _).xt _ _)) f1 f2).mono ?_
      rw [hrb]
      rintro e w' ⟨rfl, O2, d2, rfl⟩
      go_wp2_with fail
      go_ret
      exact ⟨rfl, by repeat (first | with_reducible exact Gr.refl _ | with_reducible refine Gr.alloc _ ?_ | with_reducible refine Gr.xt _ _ ?_)⟩
  · have hdb : decide (DrwsOk l d) = false := by simp [hd]
    have e : decide (MeetsAll l r d) = false := by simp [MeetsAll, hd]
    rw [e]
    clear hd e
    go_enter Try.func16, Try.ntmps16
    go_wp2_with fail
    refine (refDraws_any l d ao a3 cap c3 _ (sups_gr H.out ((Gr.refl _).alloc _)) hf (drws_gr H3.out ((Gr.refl _).alloc _)) f3).mono ?_
    rw [hdb]
    rintro e w' ⟨rfl, O1, d1, rfl⟩
    go_wp2_with fail
    go_ret
    exact ⟨rfl, by repeat (first | with_reducible exact Gr.refl _ | with_reducible refine Gr.alloc _ ?_ | with_reducible refine Gr.xt _ _ ?_)⟩
end Go.Proofs.Ytoenkcojfogmmaa

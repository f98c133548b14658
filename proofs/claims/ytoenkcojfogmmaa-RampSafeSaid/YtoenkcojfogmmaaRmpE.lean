/- ramp.Plan. -/
import Derived.Test.YtoenkcojfogmmaaRmpD
set_option linter.unusedVariables false
set_option linter.unusedSimpArgs false
namespace Go.Proofs.Ytoenkcojfogmmaa
open Go.RowKit
open Classical

/-! What the plan is -/
noncomputable def upTo (top : Rls) (s : Rls × List Wri) : Nat → Rls × List Wri
  | 0 => s
  | k + 1 => if onAt top k = true then wSupply (wLevel (upTo top s k) k (lvAt top k)) k true else upTo top s k
noncomputable def downTo (tg : Rls) (n : Nat) (s : Rls × List Wri) : Nat → Rls × List Wri
  | 0 => s
  | m + 1 => wLevel (if onAt tg (n - 1 - m) = true then downTo tg n s m else wSupply (downTo tg n s m) (n - 1 - m) false) (n - 1 - m) (lvAt tg (n - 1 - m))
noncomputable def planL (n : Nat) (a b : Rls) : List Wri := (downTo b n (upTo (joinR a b) (a, []) n) n).2
theorem wLevel_len (s : Rls × List Wri) (k : Nat) (x : Int) : (wLevel s k x).2.length ≤ s.2.length + 1 := by
  unfold wLevel
  simp only
  split <;> simp
theorem wSupply_len (s : Rls × List Wri) (k : Nat) (x : Bool) : (wSupply s k x).2.length ≤ s.2.length + 1 := by
  unfold wSupply
  simp only
  split <;> simp
theorem upTo_len (top : Rls) (s : Rls × List Wri) (k : Nat) : (upTo top s k).2.length ≤ s.2.length + 2 * k := by
  induction k with
  | zero => simp [upTo]
  | succ k ih =>
    unfold upTo
    split
    · have h1 := wSupply_len (wLevel (upTo top s k) k (lvAt top k)) k true
      have h2 := wLevel_len (upTo top s k) k (lvAt top k)
      omega
    · omega
theorem downTo_len (tg : Rls) (n : Nat) (s : Rls × List Wri) (k : Nat) : (downTo tg n s k).2.length ≤ s.2.length + 2 * k := by
  induction k with
  | zero => simp [downTo]
  | succ k ih =>
    unfold downTo
    split
    · have h2 := wLevel_len (downTo tg n s k) (n - 1 - k) (lvAt tg (n - 1 - k))
      omega
    · have h1 := wSupply_len (downTo tg n s k) (n - 1 - k) false
      have h2 := wLevel_len (wSupply (downTo tg n s k) (n - 1 - k) false) (n - 1 - k) (lvAt tg (n - 1 - k))
      omega
/-- Writes with numbers that fit. -/
def WWide (p : Wri) : Prop := Wide p.kind ∧ Wide p.unit ∧ Wide p.value
theorem wLevel_wide {s : Rls × List Wri} {k : Nat} {x : Int} (h : ∀ p ∈ s.2, WWide p) (hk : k ≤ 1000) (hx : Wide x) : ∀ p ∈ (wLevel s k x).2, WWide p := by
  unfold wLevel
  simp only
  split
  · exact h
  · intro p hp
    rcases List.mem_append.1 hp with q | q
    · exact h p q
    · rw [List.mem_singleton.1 q]; exact ⟨by unfold Wide; simp, by unfold Wide; simp only; omega, hx⟩
theorem wSupply_wide {s : Rls × List Wri} {k : Nat} {x : Bool} (h : ∀ p ∈ s.2, WWide p) (hk : k ≤ 1000) : ∀ p ∈ (wSupply s k x).2, WWide p := by
  unfold wSupply
  simp only
  split
  · exact h
  · intro p hp
    rcases List.mem_append.1 hp with q | q
    · exact h p q
    · rw [List.mem_singleton.1 q]; exact ⟨by unfold Wide; simp, by unfold Wide; simp only; omega, by cases x <;> (unfold Wide; simp)⟩
theorem upTo_wide {top : Rls} {s : Rls × List Wri} (h : ∀ p ∈ s.2, WWide p) (ht : ∀ k, Wide (lvAt top k)) (k : Nat) (hk : k ≤ 1000) : ∀ p ∈ (upTo top s k).2, WWide p := by
  induction k with
  | zero => exact h
  | succ k ih =>
    unfold upTo
    split
    · exact wSupply_wide (wLevel_wide (ih (by omega)) (by omega) (ht k)) (by omega)
    · exact ih (by omega)
theorem downTo_wide {tg : Rls} {n : Nat} {s : Rls × List Wri} (h : ∀ p ∈ s.2, WWide p) (ht : ∀ k, Wide (lvAt tg k)) (hn : n ≤ 1000) (k : Nat) : ∀ p ∈ (downTo tg n s k).2, WWide p := by
  induction k with
  | zero => exact h
  | succ k ih =>
    unfold downTo
    split
    · exact wLevel_wide ih (by omega) (ht _)
    · exact wLevel_wide (wSupply_wide ih (by omega)) (by omega) (ht _)
theorem rls_wide {l : List Sup} {r : Rls} (h : RlsOk l r) (k : Nat) : Wide (lvAt r k) := by
  by_cases hk : k < r.level.length
  · rw [lvAt_eq hk]
    have h2 := h.2.2.1
    have h3 := h.2.2.2 k (by omega) hk
    have hz := (chk_zero h.1).1
    simp only [Big, not_or] at hz
    have : l[k].levels.length ≤ 16 := Classical.byContradiction fun q => hz.2 ⟨k, by omega, by omega⟩
    unfold Wide; omega
  · have : lvAt r k = 0 := by simp [lvAt, List.getD_eq_getElem?_getD, List.getElem?_eq_none (Nat.le_of_not_lt hk)]
    rw [this]; unfold Wide; omega
theorem join_wide {a b : Rls} (ha : ∀ k, Wide (lvAt a k)) (hb : ∀ k, Wide (lvAt b k)) (k : Nat) : Wide (lvAt (joinR a b) k) := by
  by_cases h : k < b.level.length
  · rw [joinR_lv a b k h]
    unfold jlv
    split
    · split
      · split
        · exact hb k
        · exact ha k
      · exact ha k
    · exact hb k
  · have : lvAt (joinR a b) k = 0 := by simp [lvAt, List.getD_eq_getElem?_getD, joinR, List.getElem?_eq_none, Nat.le_of_not_lt h]
    rw [this]; unfold Wide; omega
theorem planL_wide {l : List Sup} {n : Nat} {a b : Rls} (ha : RlsOk l a) (hb : RlsOk l b) (hn : n ≤ 1000) : ∀ p ∈ planL n a b, WWide p :=
  downTo_wide (upTo_wide (by simp) (join_wide (rls_wide ha) (rls_wide hb)) n hn) (rls_wide hb) hn n
theorem planL_len (n : Nat) (a b : Rls) : (planL n a b).length ≤ 4 * n := by
  have h1 := downTo_len b n (upTo (joinR a b) (a, []) n) n
  have h2 := upTo_len (joinR a b) (a, []) n
  simp only [List.length_nil] at h2
  unfold planL
  omega
/-- The error of a plan. -/
noncomputable def planE (l : List Sup) (a b : Rls) (d : List Drw) : Int := if begR l [a, b] = 0 then (if DrwsOk l d then (if MeetsAll l a d ∧ MeetsAll l b d then 0 else 7) else 1) else begR l [a, b]
noncomputable def planP (l : List Sup) (a b : Rls) (d : List Drw) : List Wri := if planE l a b d = 0 then planL l.length a b else []
theorem encWs_at (ps : List Wri) (k j : Nat) (hk : k < ps.length) (hj : j < 3) : (encWs ps)[k * 3 + j]? = (encW ps[k])[j]? := by
  induction ps generalizing k with
  | nil => simp at hk
  | cons x ps ih =>
    have e : encWs (x :: ps) = encW x ++ encWs ps := rfl
    rw [e]
    have hx : (encW x).length = 3 := rfl
    cases k with
    | zero => rw [List.getElem?_append_left (by omega)]; simp
    | succ k =>
      rw [List.getElem?_append_right (by omega), hx, show (k + 1) * 3 + j - 3 = k * 3 + j by omega, ih k (by simpa using hk)]
      simp
theorem owns_slW {w : World} {base n : Nat} {v : Value} {ps : List Wri} (h : w.ownsRow base 46 3 v n (encWs ps)) (hp : ∀ p ∈ ps, WWide p) : ∃ a c, v = .slice a ps.length c ∧ ps.length ≤ c ∧ SlOf 3 RWri w a ps := by
  have hn : n = ps.length := by have := h.1; rw [encWs_len] at this; omega
  subst hn
  obtain ⟨h0, ⟨rfl, h1⟩ | ⟨g, cap, cur, rfl, hb, hg, hn, _, hs, ht⟩⟩ := h
  · have : ps = [] := List.eq_nil_of_length_eq_zero h1
    subst this
    exact ⟨none, 0, rfl, Nat.le_refl _, SlOf.nil _ _ _ _⟩
  · refine ⟨_, cap, rfl, hn, fun k hk => ⟨g, 0, rfl, ?_⟩⟩
    have key : ∀ j, (hj : j < 3) → w.cell? ⟨g, 0 + k * 3 + j, none⟩ = (encW ps[k])[j]? := fun j hj => by
      rw [← encWs_at ps k j hk hj, ← ht, List.getElem?_take, if_pos (by omega)]
      simp [World.cell?, hg]
    have hw := hp _ (List.getElem_mem hk)
    exact ⟨⟨key 0 (by omega), hw.1⟩, ⟨key 1 (by omega), hw.2.1⟩, ⟨key 2 (by omega), hw.2.2⟩⟩
/-- Two rails in a row of their own. -/
theorem two_rls {w : World} {B : Nat} {a b : Rls} {a1 a2 a3 a4 : Option Addr} {c1 c2 c3 c4 : Nat} (e0 : w.cell? ⟨B, 0, none⟩ = some (.slice a1 a.on.length c1)) (e1 : w.cell? ⟨B, 1, none⟩ = some (.slice a2 a.level.length c2)) (e2 : w.cell? ⟨B, 2, none⟩ = some (.slice a3 b.on.length c3)) (e3 : w.cell? ⟨B, 3, none⟩ = some (.slice a4 b.level.length c4))
    (h1 : SlOf 1 RB w a1 a.on) (h2 : SlOf 1 RI w a2 a.level) (h3 : SlOf 1 RB w a3 b.on) (h4 : SlOf 1 RI w a4 b.level) (k1 : a.on.length ≤ c1) (k2 : a.level.length ≤ c2) (k3 : b.on.length ≤ c3) (k4 : b.level.length ≤ c4) (f1 : Fit a.on.length) (f2 : Fit a.level.length) (f3 : Fit b.on.length) (f4 : Fit b.level.length) :
    SlOf 2 RRls w (some ⟨B, 0, none⟩) [a, b] := by
  intro k hk
  refine ⟨B, 0, rfl, ?_⟩
  have : k = 0 ∨ k = 1 := by simp at hk; omega
  rcases this with rfl | rfl
  · exact ⟨⟨a1, c1, e0, k1, f1, h1⟩, ⟨a2, c2, e1, k2, f2, h2⟩⟩
  · exact ⟨⟨a3, c3, e2, k3, f3, h3⟩, ⟨a4, c4, e3, k4, f4, h4⟩⟩
end Go.Proofs.Ytoenkcojfogmmaa

/- Supplies, draws, rails and writes as plain data, how they lie in memory, and what the document says of them, in plain terms. No conditions. -/
import Derived.Test.YtoenkcojfogmmaaMem
set_option linter.unusedVariables false
set_option linter.unusedSimpArgs false
namespace Go.Proofs.Ytoenkcojfogmmaa
open Go.RowKit

structure Sup where
  parent : Int
  levels : List Int
  dropout : Int
  capacity : Int
  always : Bool
structure Drw where
  supply : Int
  low : Int
  high : Int
  load : Int
structure Rls where
  on : List Bool
  level : List Int
structure Wri where
  kind : Int
  unit : Int
  value : Int
def RSup (w : World) (b o : Nat) (s : Sup) : Prop := RI w b o s.parent ∧ RSl 1 RI w b (o + 1) s.levels ∧ RI w b (o + 2) s.dropout ∧ RI w b (o + 3) s.capacity ∧ RB w b (o + 4) s.always
def RDrw (w : World) (b o : Nat) (s : Drw) : Prop := RI w b o s.supply ∧ RI w b (o + 1) s.low ∧ RI w b (o + 2) s.high ∧ RI w b (o + 3) s.load
def RRls (w : World) (b o : Nat) (s : Rls) : Prop := RSl 1 RB w b o s.on ∧ RSl 1 RI w b (o + 1) s.level
def RWri (w : World) (b o : Nat) (s : Wri) : Prop := RI w b o s.kind ∧ RI w b (o + 1) s.unit ∧ RI w b (o + 2) s.value
theorem RSup.mono : Mono RSup := fun _ _ _ _ _ hg ⟨h0, h1, h2, h3, h4⟩ => ⟨RI.mono _ _ _ _ _ hg h0, RSl.mono RI.mono _ _ _ _ _ hg h1, RI.mono _ _ _ _ _ hg h2, RI.mono _ _ _ _ _ hg h3, RB.mono _ _ _ _ _ hg h4⟩
theorem RDrw.mono : Mono RDrw := fun _ _ _ _ _ hg ⟨h0, h1, h2, h3⟩ => ⟨RI.mono _ _ _ _ _ hg h0, RI.mono _ _ _ _ _ hg h1, RI.mono _ _ _ _ _ hg h2, RI.mono _ _ _ _ _ hg h3⟩
theorem RRls.mono : Mono RRls := fun _ _ _ _ _ hg ⟨h0, h1⟩ => ⟨RSl.mono RB.mono _ _ _ _ _ hg h0, RSl.mono RI.mono _ _ _ _ _ hg h1⟩
theorem RWri.mono : Mono RWri := fun _ _ _ _ _ hg ⟨h0, h1, h2⟩ => ⟨RI.mono _ _ _ _ _ hg h0, RI.mono _ _ _ _ _ hg h1, RI.mono _ _ _ _ _ hg h2⟩
abbrev SupsAt := SlOf (α := Sup) 5 RSup
abbrev DrwsAt := SlOf (α := Drw) 4 RDrw
theorem sups_gr {w w' : World} {ao : Option Addr} {xs : List Sup} (h : SlOf 5 RSup w ao xs) (hg : Gr w w') : SlOf 5 RSup w' ao xs := h.gr RSup.mono hg
theorem drws_gr {w w' : World} {ao : Option Addr} {xs : List Drw} (h : SlOf 4 RDrw w ao xs) (hg : Gr w w') : SlOf 4 RDrw w' ao xs := h.gr RDrw.mono hg

/-! What is valid -/
def LvOk (xs : List Int) (j : Nat) : Prop := ∃ h : j < xs.length, 1 ≤ xs[j] ∧ xs[j] ≤ 5000 ∧ (0 < j → xs[j - 1]'(by omega) < xs[j])
def HeadOk (s : Sup) (i : Nat) : Prop := -1 ≤ s.parent ∧ s.parent ≤ (i : Int) - 1 ∧ 1 ≤ s.levels.length ∧ 0 ≤ s.dropout ∧ s.dropout ≤ 5000 ∧ (s.parent < 0 → s.dropout = 0) ∧ 0 ≤ s.capacity ∧ s.capacity ≤ 10000
def SupOk (s : Sup) (i : Nat) : Prop := HeadOk s i ∧ ∀ j, j < s.levels.length → LvOk s.levels j
def BigAt (l : List Sup) (k : Nat) : Prop := ∃ h : k < l.length, 16 < l[k].levels.length
def OkAt (l : List Sup) (k : Nat) : Prop := ∃ h : k < l.length, SupOk l[k] k
def Big (l : List Sup) : Prop := 16 < l.length ∨ ∃ k, BigAt l k
def AllOk (l : List Sup) : Prop := ∀ k, k < l.length → OkAt l k
open Classical in
/-- The error of supplies. -/
noncomputable def chk (l : List Sup) : Int := if Big l then 3 else if AllOk l then 0 else 1
theorem chk_big {l : List Sup} (h : Big l) : chk l = 3 := by simp [chk, h]
theorem chk_ok {l : List Sup} (h : ¬ Big l) (k : AllOk l) : chk l = 0 := by simp [chk, h, k]
theorem chk_bad {l : List Sup} (h : ¬ Big l) (k : ¬ AllOk l) : chk l = 1 := by simp [chk, h, k]
theorem chk_zero {l : List Sup} (h : chk l = 0) : ¬ Big l ∧ AllOk l := by
  unfold chk at h
  split at h
  · omega
  · split at h
    · exact ⟨by assumption, by assumption⟩
    · omega
theorem chk_wide (l : List Sup) : 0 ≤ chk l ∧ chk l ≤ 3 := by unfold chk; split <;> (try split) <;> omega
theorem bad_lv {l : List Sup} {k m : Nat} (hk : k < l.length) (hm : m < l[k].levels.length) (h : ¬ LvOk l[k].levels m) : ¬ AllOk l := fun ha => by
  obtain ⟨_, hs⟩ := ha k hk
  exact h (hs.2 m hm)
theorem bad_head {l : List Sup} {k : Nat} (hk : k < l.length) (h : ¬ HeadOk l[k] k) : ¬ AllOk l := fun ha => by
  obtain ⟨_, hs⟩ := ha k hk
  exact h hs.1
def DrwOk (l : List Sup) (x : Drw) : Prop := 0 ≤ x.supply ∧ x.supply ≤ (l.length : Int) - 1 ∧ 0 ≤ x.low ∧ x.low ≤ x.high ∧ x.high ≤ 5000 ∧ 0 ≤ x.load ∧ x.load ≤ 10000
def DrwsOk (l : List Sup) (d : List Drw) : Prop := chk l = 0 ∧ d.length ≤ 32 ∧ ∀ k (h : k < d.length), DrwOk l d[k]
def RlsOk (l : List Sup) (r : Rls) : Prop := chk l = 0 ∧ r.on.length = l.length ∧ r.level.length = l.length ∧ ∀ k (h : k < l.length) (h' : k < r.level.length), 0 ≤ r.level[k] ∧ r.level[k] ≤ (l[k].levels.length : Int) - 1
end Go.Proofs.Ytoenkcojfogmmaa

/- Lemmas and contracts for the proof of RetuneAnswers (several texts in one, printed by wip/tools/pack.py): Ke. -/
import Derived.Test.YtenehghpmnajpaaGreatDoorRa8pb
import Derived.Test.YtenehghpmnajpaaGreatDoorRa8pc
set_option maxRecDepth 100000
set_option maxHeartbeats 16000000

/-! Clocks, limits and settings as plain data, how they lie in memory, and what is valid. No conditions. -/
set_option linter.unusedVariables false
set_option linter.unusedSimpArgs false
namespace Go.Proofs.YtenehghpmnajpaaGreatDoor
open Go.RowKit
open Classical
structure Clk where
  kind : Int
  parents : List Int
  choices : List Int
  low : Int
  high : Int
structure Lmt where
  clock : Int
  low : Int
  high : Int
def RClk (w : World) (b o : Nat) (c : Clk) : Prop := RI w b o c.kind ∧ RSl 1 RI w b (o + 1) c.parents ∧ RSl 1 RI w b (o + 2) c.choices ∧ RI w b (o + 3) c.low ∧ RI w b (o + 4) c.high
def RLmt (w : World) (b o : Nat) (x : Lmt) : Prop := RI w b o x.clock ∧ RI w b (o + 1) x.low ∧ RI w b (o + 2) x.high
theorem RClk.mono : Mono RClk := fun _ _ _ _ _ hg ⟨h0, h1, h2, h3, h4⟩ => ⟨RI.mono _ _ _ _ _ hg h0, RSl.mono RI.mono _ _ _ _ _ hg h1, RSl.mono RI.mono _ _ _ _ _ hg h2, RI.mono _ _ _ _ _ hg h3, RI.mono _ _ _ _ _ hg h4⟩
theorem RLmt.mono : Mono RLmt := fun _ _ _ _ _ hg ⟨h0, h1, h2⟩ => ⟨RI.mono _ _ _ _ _ hg h0, RI.mono _ _ _ _ _ hg h1, RI.mono _ _ _ _ _ hg h2⟩
theorem clks_gr {w w' : World} {ao : Option Addr} {xs : List Clk} (h : SlOf 5 RClk w ao xs) (hg : Gr w w') : SlOf 5 RClk w' ao xs := h.gr RClk.mono hg
theorem lmts_gr {w w' : World} {ao : Option Addr} {xs : List Lmt} (h : SlOf 3 RLmt w ao xs) (hg : Gr w w') : SlOf 3 RLmt w' ao xs := h.gr RLmt.mono hg
theorem ne_at {α : Type} {xs ys : List α} (k : Nat) (hx : k < xs.length) (hy : k < ys.length) (h : xs[k] ≠ ys[k]) : xs ≠ ys := by
  rintro rfl; exact h rfl
theorem eq_all {α : Type} {xs ys : List α} (hl : xs.length = ys.length) (h : ∀ j (hx : j < xs.length) (hy : j < ys.length), xs[j] = ys[j]) : xs = ys :=
  List.ext_getElem hl fun i h1 h2 => h i h1 h2
/-! What is valid -/
def DiffAt (xs : List Int) (lo hi : Int) (j : Nat) : Prop := ∃ h : j < xs.length, lo ≤ xs[j] ∧ xs[j] ≤ hi ∧ xs[j] ∉ xs.take j
def Diff (xs : List Int) (lo hi : Int) : Prop := ∀ j, j < xs.length → DiffAt xs lo hi j
def ParOk (c : Clk) (i : Nat) : Prop := ∀ j (h : j < c.parents.length), 0 ≤ c.parents[j] ∧ c.parents[j] < i
def ChoOk (c : Clk) : Prop :=
  (c.kind = 1 ∧ c.parents.length = 0 ∧ ∃ h : c.choices.length = 1, 1 ≤ c.choices[0] ∧ c.choices[0] ≤ 4000000000) ∨
  ((c.kind = 2 ∨ c.kind = 3) ∧ c.parents.length = 1 ∧ 1 ≤ c.choices.length ∧ Diff c.choices 1 64) ∨
  (c.kind = 4 ∧ 1 ≤ c.parents.length ∧ 1 ≤ c.choices.length ∧ Diff c.choices 0 ((c.parents.length : Int) - 1)) ∨
  (c.kind = 5 ∧ c.parents.length = 1 ∧ c.choices = [0, 1])
def LimOk (c : Clk) : Prop := 0 ≤ c.low ∧ c.low ≤ c.high ∧ c.high ≤ 4000000000
def ClkOk (c : Clk) (i : Nat) : Prop := ParOk c i ∧ ChoOk c ∧ LimOk c
def BigC (c : Clk) : Prop := 8 < c.parents.length ∨ 8 < c.choices.length
def BigAt (l : List Clk) (k : Nat) : Prop := ∃ h : k < l.length, BigC l[k]
def Big (l : List Clk) : Prop := 16 < l.length ∨ ∃ k, BigAt l k
def OkAt (l : List Clk) (k : Nat) : Prop := ∃ h : k < l.length, ClkOk l[k] k
def AllOk (l : List Clk) : Prop := ∀ k, k < l.length → OkAt l k
def prodC : List Clk → Nat
  | [] => 1
  | c :: l => c.choices.length * prodC l
def isFac (c : Clk) : Int := if c.kind = 2 ∨ c.kind = 3 then 1 else 0
def maxAt (out : List Int) : List Int → Int → Int
  | [], n => n
  | p :: ps, n => maxAt out ps (max n (out.getD p.toNat 0))
def facStep (out : List Int) (c : Clk) : Int := maxAt out c.parents 0 + isFac c
def facsGo : List Clk → List Int → List Int
  | [], out => out
  | c :: l, out => facsGo l (out ++ [facStep out c])
def facs (l : List Clk) : List Int := facsGo l []
noncomputable def cchk (l : List Clk) : Int :=
  if Big l then 3 else if AllOk l then (if prodC l ≤ 4096 ∧ ∀ x ∈ facs l, x ≤ 4 then 0 else 3) else 1
theorem cchk_big {l : List Clk} (h : Big l) : cchk l = 3 := by simp [cchk, h]
theorem cchk_bad {l : List Clk} (h : ¬ Big l) (k : ¬ AllOk l) : cchk l = 1 := by simp [cchk, h, k]
theorem cchk_ok {l : List Clk} (h : ¬ Big l) (k : AllOk l) (q : prodC l ≤ 4096) (r : ∀ x ∈ facs l, x ≤ 4) : cchk l = 0 := by
  unfold cchk; rw [if_neg h, if_pos k, if_pos ⟨q, r⟩]
theorem cchk_much {l : List Clk} (h : ¬ Big l) (k : AllOk l) (q : ¬ (prodC l ≤ 4096 ∧ ∀ x ∈ facs l, x ≤ 4)) : cchk l = 3 := by
  unfold cchk; rw [if_neg h, if_pos k, if_neg q]
theorem cchk_zero {l : List Clk} (h : cchk l = 0) : ¬ Big l ∧ AllOk l ∧ prodC l ≤ 4096 ∧ ∀ x ∈ facs l, x ≤ 4 := by
  unfold cchk at h
  split at h
  · omega
  · split at h
    · split at h
      · rename_i a b c; exact ⟨a, b, c⟩
      · omega
    · omega
theorem bad_at {l : List Clk} {k : Nat} (hk : k < l.length) (h : ¬ ClkOk l[k] k) : ¬ AllOk l := fun ha => by
  obtain ⟨_, hs⟩ := ha k hk
  exact h hs
theorem small_len {l : List Clk} (h : ¬ Big l) : l.length ≤ 16 := Nat.le_of_not_lt fun q => h (.inl q)
theorem small_at {l : List Clk} (h : ¬ Big l) {k : Nat} (hk : k < l.length) : l[k].parents.length ≤ 8 ∧ l[k].choices.length ≤ 8 := by
  constructor
  · exact Nat.le_of_not_lt fun q => h (.inr ⟨k, hk, .inl q⟩)
  · exact Nat.le_of_not_lt fun q => h (.inr ⟨k, hk, .inr q⟩)
theorem facsGo_len (l : List Clk) : ∀ out, (facsGo l out).length = out.length + l.length := by
  induction l with
  | nil => intro out; simp [facsGo]
  | cons c l ih => intro out; rw [facsGo, ih]; simp; omega
theorem facs_len (l : List Clk) : (facs l).length = l.length := by simp [facs, facsGo_len]
theorem facsGo_snoc (l : List Clk) (c : Clk) : ∀ out, facsGo (l ++ [c]) out = facsGo l out ++ [facStep (facsGo l out) c] := by
  induction l with
  | nil => intro out; simp [facsGo]
  | cons d l ih => intro out; simp only [List.cons_append, facsGo]; exact ih _
theorem facs_snoc (l : List Clk) (c : Clk) : facs (l ++ [c]) = facs l ++ [facStep (facs l) c] := facsGo_snoc l c []
theorem take_snoc_get {α : Type} (l : List α) (k : Nat) (h : k < l.length) : l.take (k + 1) = l.take k ++ [l[k]] := by
  rw [List.take_succ_eq_append_getElem h]
theorem facs_take (l : List Clk) (k : Nat) (h : k < l.length) : facs (l.take (k + 1)) = facs (l.take k) ++ [facStep (facs (l.take k)) l[k]] := by
  rw [take_snoc_get l k h, facs_snoc]
theorem prodC_snoc (l : List Clk) (c : Clk) : prodC (l ++ [c]) = prodC l * c.choices.length := by
  induction l with
  | nil => simp [prodC]
  | cons d l ih => simp only [List.cons_append, prodC, ih, Nat.mul_assoc]
theorem prodC_take (l : List Clk) (k : Nat) (h : k < l.length) : prodC (l.take (k + 1)) = prodC (l.take k) * l[k].choices.length := by
  rw [take_snoc_get l k h, prodC_snoc]
theorem prodC_append (l m : List Clk) : prodC (l ++ m) = prodC l * prodC m := by
  induction l with
  | nil => simp [prodC]
  | cons d l ih => simp only [List.cons_append, prodC, ih, Nat.mul_assoc]
theorem cho_pos {c : Clk} (h : ChoOk c) : 1 ≤ c.choices.length := by
  rcases h with ⟨_, _, h, _⟩ | ⟨_, _, h, _⟩ | ⟨_, _, h, _⟩ | ⟨_, _, h⟩
  · omega
  · exact h
  · exact h
  · rw [h]; simp
theorem prodC_pos {l : List Clk} (h : ∀ c ∈ l, 1 ≤ c.choices.length) : 1 ≤ prodC l := by
  induction l with
  | nil => simp [prodC]
  | cons c l ih =>
    have h1 := h c (by simp)
    have h2 := ih (fun d hd => h d (by simp [hd]))
    exact Nat.mul_pos h1 h2
theorem prodC_take_le {l : List Clk} (h : ∀ c ∈ l, 1 ≤ c.choices.length) (k : Nat) : prodC (l.take k) ≤ prodC l := by
  have e : prodC l = prodC (l.take k) * prodC (l.drop k) := by rw [← prodC_append, List.take_append_drop]
  have := prodC_pos (l := l.drop k) (fun c hc => h c (List.mem_of_mem_drop hc))
  rw [e]; exact Nat.le_mul_of_pos_right _ this
theorem allOk_cho {l : List Clk} (h : AllOk l) : ∀ c ∈ l, 1 ≤ c.choices.length := by
  intro c hc
  obtain ⟨k, hk, rfl⟩ := List.getElem_of_mem hc
  obtain ⟨_, h1, h2, _⟩ := h k hk
  exact cho_pos h2
/-! Settings, limits -/
def SetOk (l : List Clk) (s : List Int) : Prop := s.length = l.length ∧ ∀ k (h : k < l.length) (h' : k < s.length), 0 ≤ s[k] ∧ s[k] < l[k].choices.length
def LmtOk (l : List Clk) (x : Lmt) : Prop := 0 ≤ x.clock ∧ x.clock < l.length ∧ 0 ≤ x.low ∧ x.low ≤ x.high ∧ x.high ≤ 4000000000
def LmtsOk (l : List Clk) (m : List Lmt) : Prop := cchk l = 0 ∧ m.length ≤ 32 ∧ ∀ k (h : k < m.length), LmtOk l m[k]
end Go.Proofs.YtenehghpmnajpaaGreatDoor
/-! Contracts of small functions on lists of numbers: In, Ints, different. -/
set_option linter.unusedVariables false
set_option linter.unusedSimpArgs false
namespace Go.Proofs.YtenehghpmnajpaaGreatDoor
open Go.RowKit
open Classical
theorem in_any (xs : List Int) (a : Option Addr) (cap : Nat) (x : Int) (w : World) (hx : SlOf 1 RI w a xs) (fx : Fit xs.length) :
    Calls Tryz.prog 102 #[.slice a xs.length cap, .int .i64 x] w fun e w' => e = .returned (.bool (decide (x ∈ xs))) ∧ w = w' := by
  unfold Fit at fx
  have HX := Lib.hid hx
  clear hx
  go_enter Tryz.func102, Tryz.ntmps102
  go_wp2
  go_loop [5] (fun i => ∃ k : Nat, k ≤ xs.length ∧ i = .int .i64 k ∧ (∀ j (h : j < xs.length), j < k → xs[j] ≠ x)) (fun i => xs.length - (intOf i).toNat)
  case atStart => exact ⟨0, Nat.zero_le _, rfl, fun j _ h => absurd h (by omega)⟩
  case round =>
    obtain ⟨k, hk, rfl, hall⟩ := hrel
    have HA := Lib.hid hall
    clear hall
    by_cases hlt : k < xs.length
    · obtain ⟨bx, ox, rfl, ⟨c1, _⟩⟩ := HX.out.one k hlt
      by_cases he : xs[k] = x
      · have heb : (xs[k] == x) = true := by simp [he]
        have HE := Lib.hid he
        clear he
        go_wp2
        go_ret
        exact ⟨ret_bool (by have := List.getElem_mem hlt; rw [HE.out] at this; simp [this]), rfl⟩
      · have heb : (xs[k] == x) = false := by simp [he]
        have HE := Lib.hid he
        clear he
        go_wp2
        go_round
        case rel =>
          refine ⟨k + 1, by omega, by go_num, fun j h1 hj => ?_⟩
          by_cases e : j = k
          · subst e; exact HE.out
          · exact HA.out j h1 (by omega)
        case measure => simp [intOf]; omega
    · go_wp2
      go_ret
      refine ⟨ret_bool ?_, rfl⟩
      have : x ∉ xs := by
        intro hm
        obtain ⟨j, hj, e⟩ := List.getElem_of_mem hm
        exact HA.out j hj (by omega) e
      simp [this]
theorem ints_any (xs ys : List Int) (ax ay : Option Addr) (cx cy : Nat) (w : World) (hx : SlOf 1 RI w ax xs) (hy : SlOf 1 RI w ay ys) (fx : Fit xs.length) (_fy : Fit ys.length) :
    Calls Tryz.prog 24 #[.slice ax xs.length cx, .slice ay ys.length cy] w (Grows w (.bool (decide (xs = ys)))) := by
  unfold Fit at fx
  have HX := Lib.hid hx
  have HY := Lib.hid hy
  clear hx hy
  by_cases hl : xs.length = ys.length
  · have hlb : ((xs.length : Int) != (ys.length : Int)) = false := by simp [hl]
    have HL := Lib.hid hl
    clear hl
    go_enter Tryz.func24, Tryz.ntmps24
    go_wp2
    go_loopw [5] (fun i wr => ∃ k : Nat, k ≤ xs.length ∧ i = .int .i64 k ∧ (∀ j (h1 : j < xs.length) (h2 : j < ys.length), j < k → xs[j] = ys[j]) ∧ ∃ n, wr = w.drewN n) (fun i _ => xs.length - (intOf i).toNat)
    case atStart => exact ⟨0, Nat.zero_le _, rfl, fun j _ _ h => absurd h (by omega), 0, rfl⟩
    case round =>
      obtain ⟨k, hk, rfl, hall, n, rfl⟩ := hrel
      have HA := Lib.hid hall
      clear hall
      by_cases hlt : k < xs.length
      · have hlt2 : k < ys.length := by have := HL.out; omega
        obtain ⟨bx, ox, rfl, ⟨c1, _⟩⟩ := HX.out.one k hlt
        obtain ⟨by', oy, rfl, ⟨c2, _⟩⟩ := HY.out.one k hlt2
        by_cases he : xs[k] = ys[k]
        · have heb : (xs[k] != ys[k]) = false := by simp [he]
          have HE := Lib.hid he
          clear he
          go_wp2
          go_quiet (fail)
          go_wp2
          go_roundw
          case rel =>
            refine ⟨k + 1, by omega, by go_num, fun j h1 h2 hj => ?_, n + nq, by simp⟩
            by_cases e : j = k
            · subst e; exact HE.out
            · exact HA.out j h1 h2 (by omega)
          case measure => simp [intOf]; omega
        · have heb : (xs[k] != ys[k]) = true := by simp [he]
          have HE := Lib.hid he
          clear he
          go_wp2
          go_quiet (fail)
          go_wp2
          go_ret
          exact ⟨ret_bool (by simp [ne_at k hlt hlt2 HE.out]), by repeat (first | with_reducible exact Gr.refl _ | with_reducible refine Gr.drewN _ ?_)⟩
      · go_wp2
        go_ret
        exact ⟨ret_bool (by simp [eq_all HL.out (fun j h1 h2 => HA.out j h1 h2 (by omega))]), by repeat (first | with_reducible exact Gr.refl _ | with_reducible refine Gr.drewN _ ?_)⟩
  · have hlb : ((xs.length : Int) != (ys.length : Int)) = true := by simp; omega
    go_enter Tryz.func24, Tryz.ntmps24
    go_wp2
    go_ret
    exact ⟨ret_bool (by simp; intro h; exact hl (by rw [h])), Gr.refl _⟩
theorem SlOf.take {w : World} {a : Option Addr} {xs : List Int} (h : SlOf 1 RI w a xs) (k : Nat) : SlOf 1 RI w a (xs.take k) := by
  intro j hj
  have hj' : j < xs.length := by have := List.length_take_le' k xs; omega
  obtain ⟨b, o, e, q⟩ := h j hj'
  exact ⟨b, o, e, by rw [List.getElem_take]; exact q⟩
theorem refDifferent_any (xs : List Int) (a : Option Addr) (cap : Nat) (lo hi : Int) (w : World) (hx : SlOf 1 RI w a xs) (hc : xs.length ≤ cap) (fx : Fit xs.length) :
    Calls Tryz.prog 108 #[.slice a xs.length cap, .int .i64 lo, .int .i64 hi] w (Grows w (.bool (decide (Diff xs lo hi)))) := by
  have FX := Lib.hid fx
  unfold Fit at fx
  have HX := Lib.hid hx
  clear hx
  go_enter Tryz.func108, Tryz.ntmps108
  go_wp2
  go_loopw [11] (fun i wr => ∃ k : Nat, k ≤ xs.length ∧ i = .int .i64 k ∧ (∀ j, j < k → DiffAt xs lo hi j) ∧ Gr w wr) (fun i _ => xs.length - (intOf i).toNat)
  case atStart => exact ⟨0, Nat.zero_le _, rfl, fun j h => absurd h (by omega), Gr.refl _⟩
  case round =>
    obtain ⟨k, hk, rfl, hall, hg⟩ := hrel
    have HA := Lib.hid hall
    have HG := Lib.hid hg
    clear hall hg
    obtain ⟨wo, rfl⟩ : ∃ wo : World, wo = wr := ⟨_, rfl⟩
    by_cases hlt : k < xs.length
    · obtain ⟨bx, ox, rfl, ⟨c1, _⟩⟩ := (HX.out.giI HG.out).one k hlt
      have lt' : (xs.take k).length = k := by simp; omega
      have LT := Lib.hid lt'
      clear lt'
      have g0 : (k : Int) ≤ cap := by omega
      by_cases h1 : lo ≤ xs[k]
      · by_cases h2 : xs[k] ≤ hi
        · go_wp2_with fail
          have := in_any (xs.take k) (some ⟨bx, ox, none⟩) cap xs[k] wo ((HX.out.giI HG.out).take k) (by unfold Fit; have := LT.out; omega)
          rw [LT.out] at this
          refine this.mono ?_
          rintro e w' ⟨rfl, rfl⟩
          by_cases hm : xs[k] ∈ xs.take k
          · have hd : decide (xs[k] ∈ xs.take k) = true := by simpa using hm
            rw [hd]
            clear hd
            have HM := Lib.hid hm
            clear hm
            go_wp2_with fail
            go_ret
            refine ⟨ret_bool ?_, HG.out⟩
            have : ¬ Diff xs lo hi := fun q => by obtain ⟨_, _, _, q3⟩ := q k hlt; exact q3 HM.out
            simp [this]
          · have hd : decide (xs[k] ∈ xs.take k) = false := by simpa using hm
            rw [hd]
            clear hd
            have HM := Lib.hid hm
            clear hm
            go_wp2_with fail
            go_roundw
            case rel =>
              refine ⟨k + 1, by omega, by go_num, fun j hj => ?_, HG.out⟩
              by_cases e : j = k
              · subst e; exact ⟨hlt, h1, h2, HM.out⟩
              · exact HA.out j (by omega)
            case measure => simp [intOf]; omega
        · go_wp2_with fail
          go_ret
          refine ⟨ret_bool ?_, HG.out⟩
          have : ¬ Diff xs lo hi := fun q => by obtain ⟨_, _, q2, _⟩ := q k hlt; omega
          simp [this]
      · go_wp2_with fail
        go_ret
        refine ⟨ret_bool ?_, HG.out⟩
        have : ¬ Diff xs lo hi := fun q => by obtain ⟨_, q1, _⟩ := q k hlt; omega
        simp [this]
    · go_wp2_with fail
      go_ret
      refine ⟨ret_bool ?_, HG.out⟩
      have : Diff xs lo hi := fun j hj => HA.out j (by omega)
      simp [this]
end Go.Proofs.YtenehghpmnajpaaGreatDoor
/-! Contracts of the reference's choices (printed by wip/tools/ckc.py). -/
set_option linter.unusedVariables false
set_option linter.unusedSimpArgs false
namespace Go.Proofs.YtenehghpmnajpaaGreatDoor
open Go.RowKit
open Classical
theorem infoInt : (Tryz.prog.info? 3).map (fun i => (i.zero, i.size, i.bytes)) = some (some (.int .i64 0), 1, 8) := by kernel_rfl
theorem sl_new (w : World) (xs : List Int) (T : TypeId) (hw : ∀ x ∈ xs, Wide x) : SlOf 1 RI (w.alloc (.cells (nums xs).toArray T)) (some ⟨w.heap.size, 0, none⟩) xs := by
  intro k hk
  refine ⟨_, 0, rfl, ?_, hw _ (List.getElem_mem hk)⟩
  have := (Row.new w (nums xs).toArray T).cell k (by simpa [nums] using hk)
  rw [Nat.mul_one, Nat.zero_add, this]
  simp [nums]
theorem sl_01 (w : World) (T : TypeId) : SlOf 1 RI (w.alloc (.cells #[.int .i64 0, .int .i64 1] T)) (some ⟨w.heap.size, 0, none⟩) [0, 1] := sl_new w [0, 1] T (by simp [Wide])
theorem ints01_any (xs : List Int) (ax : Option Addr) (cx : Nat) (W : World) (B : Nat) (hB : W.heap.size = B) (hx : SlOf 1 RI W ax xs) (fx : Fit xs.length) :
    Calls Tryz.prog 24 #[.slice ax xs.length cx, .slice (some ⟨B, 0, none⟩) 2 2] (W.alloc (.cells #[.int .i64 0, .int .i64 1] 3)) (Grows (W.alloc (.cells #[.int .i64 0, .int .i64 1] 3)) (.bool (decide (xs = [0, 1])))) := by
  subst hB
  exact ints_any xs [0, 1] ax (some ⟨W.heap.size, 0, none⟩) cx 2 _ (hx.giI ((Gr.refl _).alloc _)) (sl_01 _ _) fx (by unfold Fit; simp)
theorem choices1 (kind : Int) (parents choices : List Int) (low high : Int) (ap ac : Option Addr) (cp cc : Nat) (w : World) (hp : parents.length ≤ cp) (hc : choices.length ≤ cc) (fp : parents.length ≤ 8) (fc : choices.length ≤ 8) (sp : SlOf 1 RI w ap parents) (sc : SlOf 1 RI w ac choices) :
    Calls Tryz.prog 55 #[.agg #[.int .i64 1, .slice ap parents.length cp, .slice ac choices.length cc, .int .i64 low, .int .i64 high]] w (Grows w (.bool (decide (ChoOk ⟨1, parents, choices, low, high⟩)))) := by
  have SC := Lib.hid sc
  clear sp sc
  have no : ChoOk ⟨1, parents, choices, low, high⟩ ↔ (parents.length = 0 ∧ ∃ h : choices.length = 1, 1 ≤ choices[0] ∧ choices[0] ≤ 4000000000) := by
    unfold ChoOk; simp
  have NO := Lib.hid no
  clear no
  by_cases h0 : parents.length = 0
  · have b0 : ((parents.length : Int) == 0) = true := by simp [h0]
    have H0 := Lib.hid h0
    clear h0
    by_cases h1 : choices.length = 1
    · obtain ⟨x, rfl⟩ : ∃ x, choices = [x] := List.length_eq_one_iff.1 h1
      clear h1
      obtain ⟨bc, oc, rfl, ⟨q, _⟩⟩ := SC.out.one 0 (by simp)
      have qh := has_of_cell q
      simp only [List.getElem_cons_zero, List.length_cons, List.length_nil, Nat.zero_add, Nat.add_zero] at q ⊢
      by_cases x1 : 1 ≤ x
      · by_cases x2 : x ≤ 4000000000
        · go_enter Tryz.func55, Tryz.ntmps55
          go_wp2_with fail
          go_ret
          exact ⟨ret_bool (by (rw [NO.out]; simp [H0.out, x1, x2])), grr⟩
        · go_enter Tryz.func55, Tryz.ntmps55
          go_wp2_with fail
          go_ret
          exact ⟨ret_bool (by (rw [NO.out]; simp [H0.out]; omega)), grr⟩
      · go_enter Tryz.func55, Tryz.ntmps55
        go_wp2_with fail
        go_ret
        exact ⟨ret_bool (by (rw [NO.out]; simp [H0.out]; omega)), grr⟩
    · have b1 : ((choices.length : Int) == 1) = false := beq_eq_false_iff_ne.2 (by omega)
      have H1 := Lib.hid h1
      clear h1
      go_enter Tryz.func55, Tryz.ntmps55
      go_wp2_with fail
      go_ret
      exact ⟨ret_bool (by (rw [NO.out]; simp [H0.out, H1.out])), grr⟩
  · have b0 : ((parents.length : Int) == 0) = false := beq_eq_false_iff_ne.2 (by omega)
    have H0 := Lib.hid h0
    clear h0
    go_enter Tryz.func55, Tryz.ntmps55
    go_wp2_with fail
    go_ret
    exact ⟨ret_bool (by (rw [NO.out]; simp [H0.out])), grr⟩
theorem choices2 (kind : Int) (parents choices : List Int) (low high : Int) (ap ac : Option Addr) (cp cc : Nat) (w : World) (hp : parents.length ≤ cp) (hc : choices.length ≤ cc) (fp : parents.length ≤ 8) (fc : choices.length ≤ 8) (sp : SlOf 1 RI w ap parents) (sc : SlOf 1 RI w ac choices) :
    Calls Tryz.prog 55 #[.agg #[.int .i64 2, .slice ap parents.length cp, .slice ac choices.length cc, .int .i64 low, .int .i64 high]] w (Grows w (.bool (decide (ChoOk ⟨2, parents, choices, low, high⟩)))) := by
  have SC := Lib.hid sc
  clear sp sc
  have no : ChoOk ⟨2, parents, choices, low, high⟩ ↔ (parents.length = 1 ∧ 1 ≤ choices.length ∧ Diff choices 1 64) := by
    unfold ChoOk; simp
  have NO := Lib.hid no
  clear no
  by_cases h0 : parents.length = 1
  · have b0 : ((parents.length : Int) == 1) = true := by simp [h0]
    have H0 := Lib.hid h0
    clear h0
    by_cases h1 : 1 ≤ choices.length
    · have b1 : decide ((1 : Int) ≤ choices.length) = true := by simp; omega
      go_enter Tryz.func55, Tryz.ntmps55
      go_wp2_with fail
      refine (refDifferent_any choices ac cc 1 64 _ (SC.out.giI grr) hc (by unfold Fit; omega)).mono ?_
      rintro e w' ⟨rfl, O1, D1, rfl⟩
      go_wp2_with fail
      go_ret
      exact ⟨ret_bool (by (rw [NO.out]; simp [H0.out, h1])), grr⟩
    · have b1 : decide ((1 : Int) ≤ choices.length) = false := by simp; omega
      go_enter Tryz.func55, Tryz.ntmps55
      go_wp2_with fail
      go_ret
      exact ⟨ret_bool (by (rw [NO.out]; simp; omega)), grr⟩
  · have b0 : ((parents.length : Int) == 1) = false := beq_eq_false_iff_ne.2 (by omega)
    have H0 := Lib.hid h0
    clear h0
    go_enter Tryz.func55, Tryz.ntmps55
    go_wp2_with fail
    go_ret
    exact ⟨ret_bool (by (rw [NO.out]; simp [H0.out])), grr⟩
theorem choices3 (kind : Int) (parents choices : List Int) (low high : Int) (ap ac : Option Addr) (cp cc : Nat) (w : World) (hp : parents.length ≤ cp) (hc : choices.length ≤ cc) (fp : parents.length ≤ 8) (fc : choices.length ≤ 8) (sp : SlOf 1 RI w ap parents) (sc : SlOf 1 RI w ac choices) :
    Calls Tryz.prog 55 #[.agg #[.int .i64 3, .slice ap parents.length cp, .slice ac choices.length cc, .int .i64 low, .int .i64 high]] w (Grows w (.bool (decide (ChoOk ⟨3, parents, choices, low, high⟩)))) := by
  have SC := Lib.hid sc
  clear sp sc
  have no : ChoOk ⟨3, parents, choices, low, high⟩ ↔ (parents.length = 1 ∧ 1 ≤ choices.length ∧ Diff choices 1 64) := by
    unfold ChoOk; simp
  have NO := Lib.hid no
  clear no
  by_cases h0 : parents.length = 1
  · have b0 : ((parents.length : Int) == 1) = true := by simp [h0]
    have H0 := Lib.hid h0
    clear h0
    by_cases h1 : 1 ≤ choices.length
    · have b1 : decide ((1 : Int) ≤ choices.length) = true := by simp; omega
      go_enter Tryz.func55, Tryz.ntmps55
      go_wp2_with fail
      refine (refDifferent_any choices ac cc 1 64 _ (SC.out.giI grr) hc (by unfold Fit; omega)).mono ?_
      rintro e w' ⟨rfl, O1, D1, rfl⟩
      go_wp2_with fail
      go_ret
      exact ⟨ret_bool (by (rw [NO.out]; simp [H0.out, h1])), grr⟩
    · have b1 : decide ((1 : Int) ≤ choices.length) = false := by simp; omega
      go_enter Tryz.func55, Tryz.ntmps55
      go_wp2_with fail
      go_ret
      exact ⟨ret_bool (by (rw [NO.out]; simp; omega)), grr⟩
  · have b0 : ((parents.length : Int) == 1) = false := beq_eq_false_iff_ne.2 (by omega)
    have H0 := Lib.hid h0
    clear h0
    go_enter Tryz.func55, Tryz.ntmps55
    go_wp2_with fail
    go_ret
    exact ⟨ret_bool (by (rw [NO.out]; simp [H0.out])), grr⟩
theorem choices4 (kind : Int) (parents choices : List Int) (low high : Int) (ap ac : Option Addr) (cp cc : Nat) (w : World) (hp : parents.length ≤ cp) (hc : choices.length ≤ cc) (fp : parents.length ≤ 8) (fc : choices.length ≤ 8) (sp : SlOf 1 RI w ap parents) (sc : SlOf 1 RI w ac choices) :
    Calls Tryz.prog 55 #[.agg #[.int .i64 4, .slice ap parents.length cp, .slice ac choices.length cc, .int .i64 low, .int .i64 high]] w (Grows w (.bool (decide (ChoOk ⟨4, parents, choices, low, high⟩)))) := by
  have SC := Lib.hid sc
  clear sp sc
  have no : ChoOk ⟨4, parents, choices, low, high⟩ ↔ (1 ≤ parents.length ∧ 1 ≤ choices.length ∧ Diff choices 0 ((parents.length : Int) - 1)) := by
    unfold ChoOk; simp
  have NO := Lib.hid no
  clear no
  by_cases h0 : 1 ≤ parents.length
  · have b0 : decide ((1 : Int) ≤ parents.length) = true := by simp; omega
    by_cases h1 : 1 ≤ choices.length
    · have b1 : decide ((1 : Int) ≤ choices.length) = true := by simp; omega
      go_enter Tryz.func55, Tryz.ntmps55
      go_wp2_with fail
      refine (refDifferent_any choices ac cc 0 _ _ (SC.out.giI grr) hc (by unfold Fit; omega)).mono ?_
      rintro e w' ⟨rfl, O1, D1, rfl⟩
      go_wp2_with fail
      go_ret
      exact ⟨ret_bool (by (rw [NO.out]; simp [h0, h1])), grr⟩
    · have b1 : decide ((1 : Int) ≤ choices.length) = false := by simp; omega
      go_enter Tryz.func55, Tryz.ntmps55
      go_wp2_with fail
      go_ret
      exact ⟨ret_bool (by (rw [NO.out]; simp; omega)), grr⟩
  · have b0 : decide ((1 : Int) ≤ parents.length) = false := by simp; omega
    go_enter Tryz.func55, Tryz.ntmps55
    go_wp2_with fail
    go_ret
    exact ⟨ret_bool (by (rw [NO.out]; simp; omega)), grr⟩
theorem choices5 (kind : Int) (parents choices : List Int) (low high : Int) (ap ac : Option Addr) (cp cc : Nat) (w : World) (hp : parents.length ≤ cp) (hc : choices.length ≤ cc) (fp : parents.length ≤ 8) (fc : choices.length ≤ 8) (sp : SlOf 1 RI w ap parents) (sc : SlOf 1 RI w ac choices) :
    Calls Tryz.prog 55 #[.agg #[.int .i64 5, .slice ap parents.length cp, .slice ac choices.length cc, .int .i64 low, .int .i64 high]] w (Grows w (.bool (decide (ChoOk ⟨5, parents, choices, low, high⟩)))) := by
  have SC := Lib.hid sc
  clear sp sc
  have no : ChoOk ⟨5, parents, choices, low, high⟩ ↔ (parents.length = 1 ∧ choices = [0, 1]) := by
    unfold ChoOk; simp
  have NO := Lib.hid no
  clear no
  by_cases h0 : parents.length = 1
  · have b0 : ((parents.length : Int) == 1) = true := by simp [h0]
    have H0 := Lib.hid h0
    clear h0
    go_enter Tryz.func55, Tryz.ntmps55
    go_wp2_with fail
    refine (ints01_any choices ac cc _ _ (by simp) (SC.out.giI grr) (by unfold Fit; omega)).mono ?_
    rintro e w' ⟨rfl, O1, D1, rfl⟩
    go_wp2_with fail
    go_ret
    exact ⟨ret_bool (by (rw [NO.out]; simp [H0.out])), grr⟩
  · have b0 : ((parents.length : Int) == 1) = false := beq_eq_false_iff_ne.2 (by omega)
    have H0 := Lib.hid h0
    clear h0
    go_enter Tryz.func55, Tryz.ntmps55
    go_wp2_with fail
    go_ret
    exact ⟨ret_bool (by (rw [NO.out]; simp [H0.out])), grr⟩
theorem choices0 (kind : Int) (parents choices : List Int) (low high : Int) (ap ac : Option Addr) (cp cc : Nat) (w : World) (k1 : kind ≠ 1) (k2 : kind ≠ 2) (k3 : kind ≠ 3) (k4 : kind ≠ 4) (k5 : kind ≠ 5) (hp : parents.length ≤ cp) (hc : choices.length ≤ cc) (fp : parents.length ≤ 8) (fc : choices.length ≤ 8) (sp : SlOf 1 RI w ap parents) (sc : SlOf 1 RI w ac choices) :
    Calls Tryz.prog 55 #[.agg #[.int .i64 kind, .slice ap parents.length cp, .slice ac choices.length cc, .int .i64 low, .int .i64 high]] w (Grows w (.bool (decide (ChoOk ⟨kind, parents, choices, low, high⟩)))) := by
  have SC := Lib.hid sc
  clear sp sc
  have no : ¬ ChoOk ⟨kind, parents, choices, low, high⟩ := by
    unfold ChoOk; simp [k1, k2, k3, k4, k5]
  have NO := Lib.hid no
  have b1 : (kind == 1) = false := by simp [k1]
  have b2 : (kind == 2) = false := by simp [k2]
  have b3 : (kind == 3) = false := by simp [k3]
  have b4 : (kind == 4) = false := by simp [k4]
  have b5 : (kind == 5) = false := by simp [k5]
  clear no k1 k2 k3 k4 k5
  go_enter Tryz.func55, Tryz.ntmps55
  go_wp2_with fail
  go_ret
  exact ⟨ret_bool (by (simp [NO.out])), grr⟩
theorem refChoices_any (c : Clk) (ap ac : Option Addr) (cp cc : Nat) (w : World) (hp : c.parents.length ≤ cp) (hc : c.choices.length ≤ cc) (fp : c.parents.length ≤ 8) (fc : c.choices.length ≤ 8) (sp : SlOf 1 RI w ap c.parents) (sc : SlOf 1 RI w ac c.choices) :
    Calls Tryz.prog 55 #[.agg #[.int .i64 c.kind, .slice ap c.parents.length cp, .slice ac c.choices.length cc, .int .i64 c.low, .int .i64 c.high]] w (Grows w (.bool (decide (ChoOk c)))) := by
  obtain ⟨kind, parents, choices, low, high⟩ := c
  by_cases k1 : kind = 1
  · subst k1; exact choices1 1 parents choices low high ap ac cp cc w hp hc fp fc sp sc
  by_cases k2 : kind = 2
  · subst k2; exact choices2 2 parents choices low high ap ac cp cc w hp hc fp fc sp sc
  by_cases k3 : kind = 3
  · subst k3; exact choices3 3 parents choices low high ap ac cp cc w hp hc fp fc sp sc
  by_cases k4 : kind = 4
  · subst k4; exact choices4 4 parents choices low high ap ac cp cc w hp hc fp fc sp sc
  by_cases k5 : kind = 5
  · subst k5; exact choices5 5 parents choices low high ap ac cp cc w hp hc fp fc sp sc
  exact choices0 kind parents choices low high ap ac cp cc w k1 k2 k3 k4 k5 hp hc fp fc sp sc
end Go.Proofs.YtenehghpmnajpaaGreatDoor
/-! Contract of the reference's factors. -/
set_option linter.unusedVariables false
set_option linter.unusedSimpArgs false
namespace Go.Proofs.YtenehghpmnajpaaGreatDoor
open Go.RowKit
open Classical
theorem maxAt_snoc (out : List Int) (p : Int) : ∀ (ps : List Int) (n : Int), maxAt out (ps ++ [p]) n = max (maxAt out ps n) (out.getD p.toNat 0)
  | [], n => rfl
  | q :: ps, n => by simp only [List.cons_append, maxAt]; exact maxAt_snoc out p ps _
theorem maxAt_take (out ps : List Int) (m : Nat) (h : m < ps.length) (n : Int) : maxAt out (ps.take (m + 1)) n = max (maxAt out (ps.take m) n) (out.getD ps[m].toNat 0) := by
  rw [List.take_succ_eq_append_getElem h, maxAt_snoc]
theorem maxAt_bounds (out : List Int) (N : Int) (ho : ∀ x ∈ out, 0 ≤ x ∧ x ≤ N) (hN : 0 ≤ N) : ∀ (ps : List Int) (n : Int), 0 ≤ n → n ≤ N → 0 ≤ maxAt out ps n ∧ maxAt out ps n ≤ N
  | [], n, h0, h1 => ⟨h0, h1⟩
  | p :: ps, n, h0, h1 => by
    simp only [maxAt]
    have : 0 ≤ out.getD p.toNat 0 ∧ out.getD p.toNat 0 ≤ N := by
      rw [List.getD_eq_getElem?_getD]
      rcases Nat.lt_or_ge p.toNat out.length with q | q
      · rw [List.getElem?_eq_getElem q]; exact ho _ (List.getElem_mem q)
      · rw [List.getElem?_eq_none q]; exact ⟨Int.le_refl 0, hN⟩
    exact maxAt_bounds out N ho hN ps _ (by omega) (by omega)
theorem facsGo_bounds (l : List Clk) : ∀ out : List Int, (∀ x ∈ out, 0 ≤ x ∧ x ≤ (out.length : Int)) → ∀ x ∈ facsGo l out, 0 ≤ x ∧ x ≤ (out.length : Int) + l.length := by
  induction l with
  | nil => intro out h x hx; have := h x hx; simpa [facsGo] using this
  | cons c l ih =>
    intro out h x hx
    have hb := maxAt_bounds out out.length h (by omega) c.parents 0 (by omega) (by omega)
    have hs : 0 ≤ facStep out c ∧ facStep out c ≤ (out.length : Int) + 1 := by unfold facStep isFac; split <;> omega
    have := ih (out ++ [facStep out c]) (by
      intro y hy
      simp only [List.length_append, List.length_cons, List.length_nil]
      rcases List.mem_append.1 hy with q | q
      · have := h y q; omega
      · rw [List.mem_singleton.1 q]; omega) x (by simpa [facsGo] using hx)
    simp only [List.length_append, List.length_cons, List.length_nil] at this ⊢
    omega
theorem facs_bounds (l : List Clk) : ∀ x ∈ facs l, 0 ≤ x ∧ x ≤ (l.length : Int) := by
  intro x hx
  have := facsGo_bounds l [] (by simp) x hx
  simpa using this
theorem owns_num {w : World} {base k : Nat} {v : Value} {xs : List Int} (h : w.ownsRow base 3 1 v k (nums xs)) (hl : xs.length = k) (q : Nat) (hq : q < k) : ∃ g cap, v = .slice (some ⟨g, 0, none⟩) k cap ∧ w.cell? ⟨g, q, none⟩ = some (.int .i64 (xs.getD q 0)) := by
  obtain ⟨g, cap, e, _, _, hc⟩ := owns_cell h (by omega)
  refine ⟨g, cap, e, ?_⟩
  rw [hc q (by omega), nums, List.getElem?_map, List.getElem?_eq_getElem (by omega), List.getD_eq_getElem?_getD, List.getElem?_eq_getElem (by omega)]
  rfl
theorem refFactors_any (l : List Clk) (ao : Option Addr) (cap : Nat) (w : World) (h : SlOf 5 RClk w ao l) (hb : ¬ Big l) (hok : AllOk l) :
    Calls Tryz.prog 56 #[.slice ao l.length cap] w (GivesOwn w 3 (nums (facs l))) := by
  have H := Lib.hid h
  have hlen := small_len hb
  have HB := Lib.hid hb
  have OK := Lib.hid hok
  clear h hb hok
  obtain ⟨i0, hi, hz0, hz1, hz2⟩ := info_parts infoInt
  go_enter Tryz.func56, Tryz.ntmps56
  go_wp2
  go_loopw [3, 11] (fun s i wr => ∃ k : Nat, k ≤ l.length ∧ i = .int .i64 k ∧ wr.ownsRow w.heap.size 3 1 s k (nums (facs (l.take k))) ∧ Gr w wr) (fun _ i _ => l.length - (intOf i).toNat)
  case atStart => exact ⟨0, Nat.zero_le _, rfl, by simpa [facs, facsGo, nums] using World.ownsRow_nil w w.heap.size 3 1, Gr.refl _⟩
  case round =>
    obtain ⟨k, hk, rfl, ho, hg⟩ := hrel
    have HO := Lib.hid ho
    have HG := Lib.hid hg
    obtain ⟨a3, c3, rfl⟩ := owns_slice ho
    clear ho hg
    obtain ⟨wo, rfl⟩ : ∃ wo : World, wo = wr := ⟨_, rfl⟩
    by_cases hlt : k < l.length
    · obtain ⟨b, o, rfl, ⟨c0, _⟩, ⟨ap, cp, c1, c1l, c1f, sp⟩, ⟨ac, cc, c2, c2l, c2f, sc⟩, ⟨c4, _⟩, c5, _⟩ := clks_gr H.out HG.out k hlt
      obtain ⟨fp, fc⟩ := small_at HB.out hlt
      obtain ⟨_, hpar, _, _⟩ := OK.out k hlt
      have PAR := Lib.hid hpar
      have SP := Lib.hid sp
      have FL : Hid ((facs (l.take k)).length = k) := Lib.hid (by rw [facs_len, List.length_take]; omega)
      have FB : Hid (∀ x ∈ facs (l.take k), 0 ≤ x ∧ x ≤ (k : Int)) := Lib.hid fun x hx => by have := facs_bounds (l.take k) x hx; rw [List.length_take] at this; omega
      clear hpar sp sc c1f c2f
      go_wp2
      obtain ⟨W2, hW2⟩ : ∃ W2 : World, Hid (W2 = wo.alloc (.cells #[.int .i64 l[k].kind, .slice ap l[k].parents.length cp, .slice ac l[k].choices.length cc, .int .i64 l[k].low, .int .i64 l[k].high] 79)) := ⟨_, Lib.hid rfl⟩
      rw [← hW2.out]
      obtain ⟨B2, hB2⟩ : ∃ B2 : Nat, Hid (wo.heap.size = B2) := ⟨_, Lib.hid rfl⟩
      rw [hB2.out]
      have HO2 : Hid (W2.ownsRow w.heap.size 3 1 (.slice a3 k c3) k (nums (facs (l.take k)))) := Lib.hid (by rw [hW2.out]; exact HO.out.alloc _)
      have SP2 : Hid (SlOf 1 RI W2 ap l[k].parents) := Lib.hid (by rw [hW2.out]; exact SP.out.giI ((Gr.refl _).alloc _))
      have HG2 : Hid (Gr w W2) := Lib.hid (by rw [hW2.out]; exact HG.out.alloc _)
      have RB : Hid (Row W2 B2 79 [.int .i64 l[k].kind, .slice ap l[k].parents.length cp, .slice ac l[k].choices.length cc, .int .i64 l[k].low, .int .i64 l[k].high]) := Lib.hid (by rw [hW2.out, ← hB2.out]; exact Row.new wo _ _)
      have r0 := RB.out.cell 0 (by simp)
      have rh := RB.out.has
      simp only [List.getElem_cons_zero] at r0
      clear hW2 hB2 SP HO HG c0 c1 c2 c4 c5 RB
      go_loop [6, 18] (fun n j => ∃ m : Nat, m ≤ l[k].parents.length ∧ j = .int .i64 m ∧ n = .int .i64 (maxAt (facs (l.take k)) (l[k].parents.take m) 0)) (fun _ j => l[k].parents.length - (intOf j).toNat)
      case atStart => exact ⟨0, Nat.zero_le _, rfl, by simp [maxAt]⟩
      case round =>
        obtain ⟨m, hm, rfl, rfl⟩ := hrel
        have nb := maxAt_bounds (facs (l.take k)) k FB.out (by omega) (l[k].parents.take m) 0 (by omega) (by omega)
        obtain ⟨x, hx⟩ : ∃ x, maxAt (facs (l.take k)) (l[k].parents.take m) 0 = x := ⟨_, rfl⟩
        rw [hx] at nb ⊢
        have HX := Lib.hid hx
        clear hx
        by_cases hlm : m < l[k].parents.length
        · obtain ⟨p1, p2⟩ := PAR.out m hlm
          obtain ⟨bp, op, rfl, ⟨q1, _⟩⟩ := SP2.out.one m hlm
          obtain ⟨q, hq⟩ := Int.eq_ofNat_of_zero_le p1
          rw [hq] at q1 p2
          obtain ⟨g, cap', e, q2⟩ := owns_num HO2.out FL.out q (by omega)
          cases e
          obtain ⟨y, hy⟩ : ∃ y, (facs (l.take k)).getD q 0 = y := ⟨_, rfl⟩
          rw [hy] at q2
          have HQ := Lib.hid hq
          have HY := Lib.hid hy
          clear hy
          have lq : (q : Int) < k := by omega
          go_wp2
          all_goals
            go_round
            case rel =>
              refine ⟨m + 1, by omega, by go_num, ?_⟩
              rw [maxAt_take _ _ _ hlm, HX.out, HQ.out, Int.toNat_natCast, HY.out]
              first | rfl | (rw [Int.max_def]; split <;> first | rfl | (congr 1; omega))
            case measure => simp [intOf]; omega
        · obtain rfl : m = l[k].parents.length := by omega
          rw [List.take_length] at HX
          have hfs : facStep (facs (l.take k)) l[k] = x + isFac l[k] := by rw [facStep, HX.out]
          have HFS := Lib.hid hfs
          clear hfs
          have FK : Hid (facs (l.take (k + 1)) = facs (l.take k) ++ [x + isFac l[k]]) := Lib.hid (by rw [facs_take l k hlt, HFS.out])
          clear HFS
          have fin : ∀ (W w1 : World) (row : Option Nat) (y : Int), y = x + isFac l[k] → w1.ownsRow w.heap.size 3 1 (.slice none 0 0) 0 [] → True := fun _ _ _ _ _ _ => trivial
          clear fin
          by_cases h2 : l[k].kind = 2
          · have b2 : (l[k].kind == 2) = true := by simp [h2]
            have hf : isFac l[k] = 1 := by simp [isFac, h2]
            have HF := Lib.hid hf
            clear h2 hf
            go_wp2_with (at_builtin; refine wpList_append_own _ rfl _ _ 22 rfl w.heap.size 3 i0 (.int .i64 0) 1 8 Tryz.underlying22 hi hz0 hz1 hz2 rfl (by decide) _ k (nums (facs (l.take k))) rfl (HO2.out.alloc _) ⟨W2.heap.size, 0, none⟩ 1 1 (nums [x + 1]) rfl rfl (cell_one_new _ _ _) (nums_one _) (by unfold maxLen; omega) (by omega) (by have := HG2.out.size; simp; omega) ?_; intro v' w1 hown' hgrow hnil)
            have HW := Lib.hid hown'
            have HGr := Lib.hid hgrow
            clear hown' hgrow hnil
            go_roundw
            case rel =>
              refine ⟨k + 1, by omega, by go_num, ?_, ?_⟩
              · have := HW.out
                rw [FK.out, HF.out]
                simpa [nums] using this
              · exact (HG2.out.alloc _).grown HGr.out (fun j e => (HO2.out.lt j e).1)
            case measure => simp [intOf]; omega
          · by_cases h3 : l[k].kind = 3
            · have b2 : (l[k].kind == 2) = false := by simp [h2]
              have b3 : (l[k].kind == 3) = true := by simp [h3]
              have hf : isFac l[k] = 1 := by simp [isFac, h3]
              have HF := Lib.hid hf
              clear h2 h3 hf
              go_wp2_with (at_builtin; refine wpList_append_own _ rfl _ _ 22 rfl w.heap.size 3 i0 (.int .i64 0) 1 8 Tryz.underlying22 hi hz0 hz1 hz2 rfl (by decide) _ k (nums (facs (l.take k))) rfl (HO2.out.alloc _) ⟨W2.heap.size, 0, none⟩ 1 1 (nums [x + 1]) rfl rfl (cell_one_new _ _ _) (nums_one _) (by unfold maxLen; omega) (by omega) (by have := HG2.out.size; simp; omega) ?_; intro v' w1 hown' hgrow hnil)
              have HW := Lib.hid hown'
              have HGr := Lib.hid hgrow
              clear hown' hgrow hnil
              go_roundw
              case rel =>
                refine ⟨k + 1, by omega, by go_num, ?_, ?_⟩
                · have := HW.out
                  rw [FK.out, HF.out]
                  simpa [nums] using this
                · exact (HG2.out.alloc _).grown HGr.out (fun j e => (HO2.out.lt j e).1)
              case measure => simp [intOf]; omega
            · have b2 : (l[k].kind == 2) = false := by simp [h2]
              have b3 : (l[k].kind == 3) = false := by simp [h3]
              have hf : isFac l[k] = 0 := by simp [isFac, h2, h3]
              have HF := Lib.hid hf
              clear h2 h3 hf
              go_wp2_with (at_builtin; refine wpList_append_own _ rfl _ _ 22 rfl w.heap.size 3 i0 (.int .i64 0) 1 8 Tryz.underlying22 hi hz0 hz1 hz2 rfl (by decide) _ k (nums (facs (l.take k))) rfl (HO2.out.alloc _) ⟨W2.heap.size, 0, none⟩ 1 1 (nums [x]) rfl rfl (cell_one_new _ _ _) (nums_one _) (by unfold maxLen; omega) (by omega) (by have := HG2.out.size; simp; omega) ?_; intro v' w1 hown' hgrow hnil)
              have HW := Lib.hid hown'
              have HGr := Lib.hid hgrow
              clear hown' hgrow hnil
              go_roundw
              case rel =>
                refine ⟨k + 1, by omega, by go_num, ?_, ?_⟩
                · have := HW.out
                  rw [FK.out, HF.out]
                  simpa [nums] using this
                · exact (HG2.out.alloc _).grown HGr.out (fun j e => (HO2.out.lt j e).1)
              case measure => simp [intOf]; omega
    · obtain rfl : k = l.length := by omega
      obtain ⟨a, c, e, hc, h1⟩ := owns_own1 HO.out
      cases e
      have H1 := Lib.hid h1
      clear h1
      go_wp2
      go_ret
      refine ⟨a3, c3, by rw [nums_len, facs_len]; rfl, by rw [nums_len, facs_len]; exact hc, ?_, HG.out⟩
      have := H1.out
      rwa [List.take_length] at this
end Go.Proofs.YtenehghpmnajpaaGreatDoor
/-! Contract of the reference's Check of clocks. -/
set_option linter.unusedVariables false
set_option linter.unusedSimpArgs false
namespace Go.Proofs.YtenehghpmnajpaaGreatDoor
open Go.RowKit
open Classical
def pm (a : Nat) : Int := ((min a 1099511627776 : Nat) : Int)
theorem pm_step (a n : Nat) (h : 1 ≤ n) : min (pm a * n) 1099511627776 = pm (a * n) := by
  unfold pm
  rcases Nat.le_total a 1099511627776 with q | q
  · rw [Nat.min_eq_left q]
    have e : ((a * n : Nat) : Int) = (a : Int) * n := Int.natCast_mul a n
    rw [← e]
    omega
  · rw [Nat.min_eq_right q]
    have h1 : a ≤ a * n := Nat.le_mul_of_pos_right _ h
    have h2 : (1099511627776 : Int) * 1 ≤ 1099511627776 * n := Int.mul_le_mul_of_nonneg_left (by omega) (by omega)
    rw [Nat.min_eq_right (Nat.le_trans q h1)]
    have e2 : ((1099511627776 : Nat) : Int) = 1099511627776 := rfl
    rw [e2]
    omega
theorem pm_bounds (a : Nat) : 0 ≤ pm a ∧ pm a ≤ 1099511627776 := by unfold pm; omega
theorem pm_much (a : Nat) : 4096 < pm a ↔ 4096 < a := by unfold pm; omega
theorem refCheck_any (l : List Clk) (ao : Option Addr) (cap : Nat) (w : World) (h : SlOf 5 RClk w ao l) (hf : Fit l.length) :
    Calls Tryz.prog 14 #[.slice ao l.length cap] w (Grows w (.int .i64 (cchk l))) := by
  unfold Fit at hf
  have H := Lib.hid h
  clear h
  by_cases hb : 16 < l.length
  · rw [cchk_big (.inl hb)]
    go_enter Tryz.func14, Tryz.ntmps14
    go_wp2
    go_ret
    exact ⟨rfl, Gr.refl _⟩
  · go_enter Tryz.func14, Tryz.ntmps14
    go_wp2
    go_loopw [17] (fun i wr => ∃ k : Nat, k ≤ l.length ∧ i = .int .i64 k ∧ (∀ j, j < k → ¬ BigAt l j) ∧ Gr w wr) (fun i _ => l.length - (intOf i).toNat)
    case atStart => exact ⟨0, Nat.zero_le _, rfl, fun j h => absurd h (by omega), Gr.refl _⟩
    case round =>
      obtain ⟨k, hk, rfl, hall, hg⟩ := hrel
      have HA := Lib.hid hall
      have HG := Lib.hid hg
      clear hall hg
      obtain ⟨wo, rfl⟩ : ∃ wo : World, wo = wr := ⟨_, rfl⟩
      by_cases hlt : k < l.length
      · obtain ⟨b, o, rfl, ⟨c0, _⟩, ⟨ap, cp, c1, c1l, _, _⟩, ⟨ac, cc, c2, c2l, _, _⟩, ⟨c4, _⟩, c5, _⟩ := clks_gr H.out HG.out k hlt
        by_cases hB : 8 < l[k].parents.length ∨ 8 < l[k].choices.length
        · have HBg := Lib.hid (cchk_big (l := l) (.inr ⟨k, hlt, hB⟩))
          rcases hB with hB | hB
          · go_wp2
            go_ret
            exact ⟨ret_int HBg.out.symm, by repeat (first | with_reducible exact HG.out | with_reducible refine Gr.alloc _ ?_)⟩
          · by_cases hB2 : 8 < l[k].parents.length
            all_goals
              go_wp2
              go_ret
              exact ⟨ret_int HBg.out.symm, by repeat (first | with_reducible exact HG.out | with_reducible refine Gr.alloc _ ?_)⟩
        · have q1 : l[k].parents.length ≤ 8 := by omega
          have q2 : l[k].choices.length ≤ 8 := by omega
          clear hB
          go_wp2
          go_roundw
          case rel =>
            refine ⟨k + 1, by omega, by go_num, fun j hj => ?_, by repeat (first | with_reducible exact HG.out | with_reducible refine Gr.alloc _ ?_)⟩
            by_cases e : j = k
            · subst e; rintro ⟨_, h⟩; unfold BigC at h; omega
            · exact HA.out j (by omega)
          case measure => simp [intOf]; omega
      · have hNB : ¬ Big l := by
          rintro (h | ⟨j, h⟩)
          · omega
          · exact HA.out j (by obtain ⟨h1, _⟩ := h; omega) h
        have NB := Lib.hid hNB
        clear HA hNB
        go_wp2
        go_loopw [5, 34] (fun s i wr => ∃ k : Nat, k ≤ l.length ∧ i = .int .i64 k ∧ s = .int .i64 (pm (prodC (l.take k))) ∧ (∀ j, j < k → OkAt l j) ∧ Gr w wr) (fun _ i _ => l.length - (intOf i).toNat)
        case atStart => exact ⟨0, Nat.zero_le _, rfl, rfl, fun j h => absurd h (by omega), HG.out⟩
        case round =>
          clear HG
          obtain ⟨k, hk, rfl, rfl, hall, hg⟩ := hrel
          have HA := Lib.hid hall
          have HG := Lib.hid hg
          clear hall hg
          obtain ⟨x, hx⟩ : ∃ x, pm (prodC (l.take k)) = x := ⟨_, rfl⟩
          have xb := pm_bounds (prodC (l.take k))
          rw [hx] at xb ⊢
          have HX := Lib.hid hx
          clear hx
          obtain ⟨wo, rfl⟩ : ∃ wo : World, wo = wr := ⟨_, rfl⟩
          by_cases hlt : k < l.length
          · obtain ⟨b, o, rfl, ⟨c0, w0⟩, ⟨ap, cp, c1, c1l, c1f, sp⟩, ⟨ac, cc, c2, c2l, c2f, sc⟩, ⟨c4, w4⟩, c5, w5⟩ := clks_gr H.out HG.out k hlt
            obtain ⟨fp, fc⟩ := small_at NB.out hlt
            have SP := Lib.hid sp
            have SC := Lib.hid sc
            clear sp sc c1f c2f
            go_wp2
            obtain ⟨W2, hW2⟩ : ∃ W2 : World, Hid (W2 = wo.alloc (.cells #[.int .i64 l[k].kind, .slice ap l[k].parents.length cp, .slice ac l[k].choices.length cc, .int .i64 l[k].low, .int .i64 l[k].high] 79)) := ⟨_, Lib.hid rfl⟩
            rw [← hW2.out]
            obtain ⟨B2, hB2⟩ : ∃ B2 : Nat, Hid (wo.heap.size = B2) := ⟨_, Lib.hid rfl⟩
            rw [hB2.out]
            have SP2 : Hid (SlOf 1 RI W2 ap l[k].parents) := Lib.hid (by rw [hW2.out]; exact SP.out.giI ((Gr.refl _).alloc _))
            have SC2 : Hid (SlOf 1 RI W2 ac l[k].choices) := Lib.hid (by rw [hW2.out]; exact SC.out.giI ((Gr.refl _).alloc _))
            have HG2 : Hid (Gr w W2) := Lib.hid (by rw [hW2.out]; exact HG.out.alloc _)
            have RB : Hid (Row W2 B2 79 [.int .i64 l[k].kind, .slice ap l[k].parents.length cp, .slice ac l[k].choices.length cc, .int .i64 l[k].low, .int .i64 l[k].high]) := Lib.hid (by rw [hW2.out, ← hB2.out]; exact Row.new wo _ _)
            clear hW2 hB2 SP SC HG c0 c1 c2 c4 c5
            go_loop [42] (fun j => ∃ m : Nat, m ≤ l[k].parents.length ∧ j = .int .i64 m ∧ ∀ i (h : i < l[k].parents.length), i < m → 0 ≤ l[k].parents[i] ∧ l[k].parents[i] < k) (fun j => l[k].parents.length - (intOf j).toNat)
            case atStart => exact ⟨0, Nat.zero_le _, rfl, fun i _ h => absurd h (by omega)⟩
            case round =>
              obtain ⟨m, hm, rfl, hps⟩ := hrel
              have HP := Lib.hid hps
              clear hps
              by_cases hlm : m < l[k].parents.length
              · obtain ⟨bp, op, rfl, ⟨q1, q2⟩⟩ := SP2.out.one m hlm
                by_cases hpo : 0 ≤ l[k].parents[m] ∧ l[k].parents[m] < k
                · obtain ⟨p1, p2⟩ := hpo
                  go_wp2
                  go_round
                  case rel =>
                    refine ⟨m + 1, by omega, by go_num, fun i h hi => ?_⟩
                    by_cases e : i = m
                    · subst e; exact ⟨p1, p2⟩
                    · exact HP.out i h (by omega)
                  case measure => simp [intOf]; omega
                · have hbad := Lib.hid (cchk_bad NB.out (bad_at hlt (fun q => hpo (q.1 m hlm))))
                  by_cases p1 : l[k].parents[m] < 0
                  · go_wp2
                    go_ret
                    exact ⟨ret_int hbad.out.symm, HG2.out⟩
                  · have p2 : (k : Int) ≤ l[k].parents[m] := by omega
                    go_wp2
                    go_ret
                    exact ⟨ret_int hbad.out.symm, HG2.out⟩
              · have HPO : Hid (ParOk l[k] k) := Lib.hid fun i h => HP.out i h (by omega)
                have r0 := RB.out.cell 0 (by simp)
                have r1 := RB.out.cell 1 (by simp)
                have r2 := RB.out.cell 2 (by simp)
                have r3 := RB.out.cell 3 (by simp)
                have r4 := RB.out.cell 4 (by simp)
                have rh := RB.out.has
                simp only [List.getElem_cons_zero, List.getElem_cons_succ] at r0 r1 r2 r3 r4
                clear HP
                by_cases hch : ChoOk l[k]
                · have hd : decide (ChoOk l[k]) = true := by simpa using hch
                  have HC := Lib.hid hch
                  have HD := Lib.hid hd
                  have hpos := cho_pos hch
                  clear hch hd
                  by_cases hli : 0 ≤ l[k].low ∧ l[k].low ≤ l[k].high ∧ l[k].high ≤ 4000000000
                  · obtain ⟨l1, l2, l3⟩ := hli
                    have MS := Lib.hid (pm_step (prodC (l.take k)) l[k].choices.length hpos)
                    rw [HX.out, ← prodC_take l k hlt] at MS
                    have xl0 : 0 ≤ x * (l[k].choices.length : Int) := Int.mul_nonneg xb.1 (by omega)
                    have xl1 : x * (l[k].choices.length : Int) ≤ 1099511627776 * 8 := Int.mul_le_mul xb.2 (by omega) (by omega) (by omega)
                    go_wp2_with fail
                    refine (refChoices_any l[k] ap ac cp cc _ c1l c2l fp fc SP2.out SC2.out).mono ?_
                    rintro e w' ⟨rfl, O1, D1, rfl⟩
                    rw [HD.out]
                    go_wp2_with fail
                    all_goals
                      go_roundw
                      case rel =>
                        refine ⟨k + 1, by omega, by go_num, ?_, fun j hj => ?_, by repeat (first | with_reducible exact HG2.out | with_reducible refine Gr.xt _ _ ?_)⟩
                        · rw [← MS.out]
                          first | rfl | (rw [Int.min_def]; split <;> first | rfl | (congr 1; omega))
                        · by_cases e : j = k
                          · subst e; exact ⟨hlt, HPO.out, HC.out, l1, l2, l3⟩
                          · exact HA.out j (by omega)
                      case measure => simp [intOf]; omega
                  · have hbad := Lib.hid (cchk_bad NB.out (bad_at hlt (fun q => hli q.2.2)))
                    rcases (show l[k].low < 0 ∨ (0 ≤ l[k].low ∧ l[k].high < l[k].low) ∨ (0 ≤ l[k].low ∧ l[k].low ≤ l[k].high ∧ 4000000000 < l[k].high) by omega) with q | ⟨q, q'⟩ | ⟨q, q', q''⟩
                    all_goals
                      clear hli
                      go_wp2_with fail
                      refine (refChoices_any l[k] ap ac cp cc _ c1l c2l fp fc SP2.out SC2.out).mono ?_
                      rintro e w' ⟨rfl, O1, D1, rfl⟩
                      rw [HD.out]
                      go_wp2_with fail
                      go_ret
                      exact ⟨ret_int hbad.out.symm, by repeat (first | with_reducible exact HG2.out | with_reducible refine Gr.xt _ _ ?_)⟩
                · have hd : decide (ChoOk l[k]) = false := by simpa using hch
                  have hbad := Lib.hid (cchk_bad NB.out (bad_at hlt (fun q => hch q.2.1)))
                  have HD := Lib.hid hd
                  clear hch hd
                  go_wp2_with fail
                  refine (refChoices_any l[k] ap ac cp cc _ c1l c2l fp fc SP2.out SC2.out).mono ?_
                  rintro e w' ⟨rfl, O1, D1, rfl⟩
                  rw [HD.out]
                  go_wp2_with fail
                  go_ret
                  exact ⟨ret_int hbad.out.symm, by repeat (first | with_reducible exact HG2.out | with_reducible refine Gr.xt _ _ ?_)⟩
          · have hOK : Hid (AllOk l) := Lib.hid fun j hj => HA.out j (by omega)
            obtain rfl : k = l.length := by omega
            rw [List.take_length] at HX
            clear HA
            by_cases hmu : 4096 < x
            · have hm := Lib.hid (cchk_much NB.out hOK.out (fun q => by have := (pm_much (prodC l)).1 (by rw [HX.out]; exact hmu); omega))
              go_wp2
              go_ret
              exact ⟨ret_int hm.out.symm, HG.out⟩
            · have hle : Hid (prodC l ≤ 4096) := Lib.hid (Nat.le_of_not_lt fun q => hmu (by rw [← HX.out]; exact (pm_much _).2 q))
              go_wp2_with fail
              refine (refFactors_any l ao cap wo (clks_gr H.out HG.out) NB.out hOK.out).mono ?_
              rintro e W3 ⟨a3, c3, rfl, h3, ho3, hg3⟩
              rw [nums_len, facs_len] at h3
              rw [nums_len, facs_len]
              have fb := facs_bounds l
              have SF : Hid (SlOf 1 RI W3 a3 (facs l)) := Lib.hid (ho3.slI fun j hj => by have := fb _ (List.getElem_mem hj); unfold Wide; omega)
              have HG3 := Lib.hid (HG.out.trans hg3)
              have FLn := Lib.hid (facs_len l)
              clear fb ho3 hg3
              go_wp2_with fail
              go_loop [86] (fun i => ∃ k : Nat, k ≤ l.length ∧ i = .int .i64 k ∧ ∀ j (h : j < (facs l).length), j < k → (facs l)[j] ≤ 4) (fun i => l.length - (intOf i).toNat)
              case atStart => exact ⟨0, Nat.zero_le _, rfl, fun j _ h => absurd h (by omega)⟩
              case round =>
                obtain ⟨k, hk, rfl, hall⟩ := hrel
                have HA := Lib.hid hall
                clear hall
                by_cases hlt : k < l.length
                · have hlt' : k < (facs l).length := by rw [FLn.out]; exact hlt
                  obtain ⟨bf, of', rfl, ⟨q, _⟩⟩ := SF.out.one k hlt'
                  by_cases h4 : 4 < (facs l)[k]
                  · have hm := Lib.hid (cchk_much NB.out hOK.out (fun q => by have := q.2 _ (List.getElem_mem hlt'); omega))
                    go_wp2
                    go_ret
                    exact ⟨ret_int hm.out.symm, HG3.out⟩
                  · go_wp2
                    go_round
                    case rel =>
                      refine ⟨k + 1, by omega, by go_num, fun j h hj => ?_⟩
                      by_cases e : j = k
                      · subst e; omega
                      · exact HA.out j h (by omega)
                    case measure => simp [intOf]; omega
                · have hz := Lib.hid (cchk_ok NB.out hOK.out hle.out (fun y hy => by
                    obtain ⟨j, hj, rfl⟩ := List.getElem_of_mem hy
                    exact HA.out j hj (by have := FLn.out; omega)))
                  go_wp2
                  go_ret
                  exact ⟨ret_int hz.out.symm, HG3.out⟩
end Go.Proofs.YtenehghpmnajpaaGreatDoor

/- Words of rules hold neither spaces nor newlines; newlines in the text of schemas; schemas that grow.Schemas makes are right. -/
import Derived.Test.YtadldblpkgackaaGreatDoorUhA
import Derived.Test.YtadldblpkgackaaGreatDoorUgB
set_option linter.unusedVariables false
set_option linter.unusedSimpArgs false
namespace Go.Proofs.YtadldblpkgackaaGreatDoor
open Go.RowKit

def NoSep (s : St) : Prop := ∀ c ∈ s, c ≠ 10 ∧ c ≠ 32
theorem sep_vis {s : St} (h : visP s = true) : NoSep s := by
  intro c hc
  unfold visP at h
  simp only [Bool.and_eq_true] at h
  have := List.all_eq_true.1 h.1.1 c hc
  simp only [Bool.and_eq_true, decide_eq_true_eq] at this
  constructor <;> (rintro rfl; simp at this)
theorem sep_digits (u : Nat) : NoSep (Lib.decDigits u) := by
  have key : ∀ d, d < 10 → (UInt8.ofNat (48 + d) ≠ 10 ∧ UInt8.ofNat (48 + d) ≠ 32) := by decide
  induction u using Nat.strongRecOn with
  | _ u ih =>
    unfold Lib.decDigits
    split
    · rename_i h
      intro c hc
      rw [List.mem_singleton.1 hc]
      exact key u h
    · intro c hc
      rcases List.mem_append.1 hc with q | q
      · exact ih (u / 10) (by omega) c q
      · rw [List.mem_singleton.1 q]
        exact key (u % 10) (by omega)
theorem sep_itoa (n : Int) : NoSep (Lib.itoa n) := by
  unfold Lib.itoa
  split
  · intro c hc
    rcases List.mem_cons.1 hc with q | q
    · rw [q]; decide
    · exact sep_digits _ c q
  · exact sep_digits _
theorem sep_prop {s : St} (h : propOk s = true) : NoSep s := by
  intro c hc
  unfold propOk nameOk at h
  simp only [Bool.and_eq_true] at h
  have hall := h.1.2
  have key : namC c = true ∨ c = 35 := by
    unfold undr at hall
    split at hall
    · cases s with
      | nil => cases hc
      | cons a l =>
        rcases List.mem_cons.1 hc with q | q
        · rename_i e
          right
          rw [q]
          simpa using e
        · exact .inl (List.all_eq_true.1 hall c (List.mem_cons_of_mem _ q))
    · exact .inl (List.all_eq_true.1 hall c hc)
  have k1 : namC 10 = false := by decide
  have k2 : namC 32 = false := by decide
  constructor
  · rintro rfl
    rcases key with q | q
    · rw [k1] at q; cases q
    · revert q; decide
  · rintro rfl
    rcases key with q | q
    · rw [k2] at q; cases q
    · revert q; decide
theorem sep_kinds (k : Nat) : NoSep (kindsS.getD k []) := by
  have h : ∀ s ∈ kindsS, ∀ c ∈ s, c ≠ 10 ∧ c ≠ 32 := by decide
  rw [List.getD_eq_getElem?_getD]
  cases hz : kindsS[k]? with
  | none => intro c hc; cases hc
  | some s => exact h s (List.mem_of_getElem? hz)
theorem sep_app {a b : St} (ha : NoSep a) (hb : NoSep b) : NoSep (a ++ b) := fun c hc => (List.mem_append.1 hc).elim (ha c) (hb c)
theorem sep_words {r : Rul} (h : ruleP r = true) : ∀ s ∈ wordsP r, NoSep s := by
  have hn : propOk r.name = true := by unfold ruleP at h; simp only [Bool.and_eq_true] at h; exact h.1.1.1.1.1.1
  have hw : r.words.all visP = true := by unfold ruleP at h; simp only [Bool.and_eq_true] at h; exact h.2
  intro s hs
  unfold wordsP at hs
  simp only [List.mem_append, List.mem_singleton] at hs
  rcases hs with ((((hs | hs) | hs) | hs) | hs) | hs
  · rw [hs]; exact sep_prop hn
  · split at hs
    · rw [List.mem_singleton.1 hs]; unfold NoSep reqS; decide
    · cases hs
  · rw [hs]; exact sep_kinds _
  · split at hs
    · rw [List.mem_singleton.1 hs]
      exact sep_app (sep_itoa _) (sep_app (by unfold NoSep; decide) (sep_itoa _))
    · cases hs
  · split at hs
    · cases hs
    · rw [List.mem_singleton.1 hs]
      intro c hc
      rcases List.mem_cons.1 hc with q | q
      · rw [q]; decide
      · exact sep_itoa _ c q
  · exact sep_vis (List.all_eq_true.1 hw s hs)
theorem join_mem {c : UInt8} : ∀ l : List St, c ∈ Lib.join l [32] → c = 32 ∨ ∃ s ∈ l, c ∈ s
  | [], h => by simp [Lib.join] at h
  | [a], h => by
    simp [Lib.join] at h
    exact .inr ⟨a, by simp, h⟩
  | a :: b :: l, h => by
    have e : Lib.join (a :: b :: l) [32] = a ++ ([32] ++ Lib.join (b :: l) [32]) := by
      unfold Lib.join
      simp [List.intercalate, List.intersperse]
    rw [e] at h
    simp only [List.mem_append, List.mem_singleton] at h
    rcases h with h | h | h
    · exact .inr ⟨a, by simp, h⟩
    · exact .inl h
    · rcases join_mem (b :: l) h with q | ⟨s, hs, q⟩
      · exact .inl q
      · exact .inr ⟨s, List.mem_cons_of_mem _ hs, q⟩
theorem line_nl {r : Rul} (h : ruleP r = true) : (10 : UInt8) ∉ Lib.join (wordsP r) [32] := by
  intro q
  rcases join_mem _ q with q | ⟨s, hs, q⟩
  · revert q; decide
  · exact (sep_words h s hs 10 q).1 rfl
theorem head_nl {s : Sch} (h : visP s.comp = true) : (10 : UInt8) ∉ headP s := by
  have h1 : (10 : UInt8) ∉ s.comp := fun q => (sep_vis h 10 q).1 rfl
  have h2 : (10 : UInt8) ∉ schemaS := by decide
  have h3 : (10 : UInt8) ∉ closedS := by decide
  unfold headP
  split <;> simp [h1, h2, h3]
/-! Newlines. -/
def nlC (t : St) : Nat := t.count 10
theorem nlC_app (a b : St) : nlC (a ++ b) = nlC a + nlC b := List.count_append
theorem nlC_R {r : Rul} (h : ruleP r = true) : nlC (lineR r) = 1 := by
  unfold lineR nlC
  rw [List.count_cons, List.count_append, List.count_eq_zero.2 (line_nl h)]
  decide
theorem nlC_S {s : Sch} (h : visP s.comp = true) : nlC (lineS s) = 1 := by
  unfold lineS nlC
  rw [List.count_append, List.count_eq_zero.2 (head_nl h)]
  decide
theorem nlC_rls : ∀ l : List Rul, (∀ r ∈ l, ruleP r = true) → nlC (l.flatMap lineR) = l.length
  | [], _ => rfl
  | r :: l, h => by
    rw [List.flatMap_cons, nlC_app, nlC_R (h r (by simp)), nlC_rls l (fun x hx => h x (List.mem_cons_of_mem _ hx)), List.length_cons]
    omega
def nLines (l : List Sch) : Nat := (l.map (fun s => 1 + s.rules.length)).sum
theorem nlC_fmt : ∀ l : List Sch, (∀ s ∈ l, OkS s) → nlC (fmtP l) = nLines l
  | [], _ => rfl
  | s :: l, h => by
    have hs := h s (by simp)
    have ih := nlC_fmt l (fun x hx => h x (List.mem_cons_of_mem _ hx))
    unfold fmtP nLines at ih ⊢
    rw [List.flatMap_cons, nlC_app, ih, List.map_cons, List.sum_cons]
    unfold fmtS
    rw [nlC_app, nlC_S hs.comp, nlC_rls _ hs.rls]
theorem fmt_cut (l : List Sch) (k : Nat) (h : k < l.length) : fmtP l = fmtP (l.take k) ++ (fmtP [l[k]] ++ fmtP (l.drop (k + 1))) := by
  unfold fmtP
  rw [← List.flatMap_append, ← List.flatMap_append]
  congr 1
  rw [List.singleton_append, ← List.drop_eq_getElem_cons h, List.take_append_drop]
theorem fmt_less (l : List Sch) (k : Nat) : fmtP (l.take k ++ l.drop (k + 1)) = fmtP (l.take k) ++ fmtP (l.drop (k + 1)) := by
  unfold fmtP; rw [List.flatMap_append]
/-! Schemas that grow.Schemas makes. -/
theorem comps_vis : compsL.all visP = true := by kernel_rfl
def subs : List St → List (List St)
  | [] => [[]]
  | a :: l => subs l ++ (subs l).map (a :: ·)
theorem mem_subs : ∀ {l m : List St}, l.Sublist m → l ∈ subs m
  | _, _, .slnil => by simp [subs]
  | _, _, .cons a h => by unfold subs; exact List.mem_append_left _ (mem_subs h)
  | _, _, .cons_cons a h => by unfold subs; exact List.mem_append_right _ (List.mem_map.2 ⟨_, mem_subs h, rfl⟩)
theorem subs_asc : (subs compsL).all (fun l => ascN l && decide (l.length ≤ 4)) = true := by kernel_rfl
/-- What a schema of grow.Schemas is as data. -/
structure GoodD (s : Sch) : Prop where
  rls : ∀ r ∈ s.rules, ruleP r = true
  asc : ascN (s.rules.map Rul.name) = true
  few : s.rules.length ≤ 3
theorem good_chk {l : List Sch} (hs : (l.map Sch.comp).Sublist compsL) (hg : ∀ s ∈ l, GoodD s) : chkSch l = 0 := by
  have h1 := List.all_eq_true.1 subs_asc _ (mem_subs hs)
  simp only [Bool.and_eq_true, decide_eq_true_eq, List.length_map] at h1
  have hv : ∀ s ∈ l, visP s.comp = true := fun s hs2 => List.all_eq_true.1 comps_vis _ (hs.subset (List.mem_map_of_mem hs2))
  unfold chkSch
  rw [if_neg, if_neg, if_neg, if_pos h1.1]
  · rw [List.any_eq_true]
    rintro ⟨s, hm, q⟩
    rw [(hg s hm).asc] at q; cases q
  · rw [List.any_eq_true]
    rintro ⟨s, hm, q⟩
    rw [hv s hm, Bool.not_true, Bool.false_or, List.any_eq_true] at q
    obtain ⟨r, hr, q⟩ := q
    rw [(hg s hm).rls r hr] at q; cases q
  · rw [List.any_eq_true]
    rintro (q | ⟨s, hm, q⟩)
    · omega
    · have := (hg s hm).few
      simp at q; omega
theorem good_data {base : Nat} {w : World} {s : SM} (h : GoodS base s) (hr : RlsAt base w s) : GoodD s.sch := by
  refine ⟨fun r hr2 => ?_, ?_, by simp only [SM.sch, List.length_map]; exact h.few⟩
  · obtain ⟨x, hx, rfl⟩ := List.mem_map.1 hr2
    exact (hr.ok x hx).1
  · have := h.asc
    simp only [SM.sch, List.map_map]
    exact this
theorem comp_sch (out : List SM) : (out.map SM.sch).map Sch.comp = out.map SM.comp := by rw [List.map_map]; rfl
end Go.Proofs.YtadldblpkgackaaGreatDoor

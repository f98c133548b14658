/- The set of names and parents that tree.Check keeps in a map: its look-up and its store. -/
import Derived.Test.YtdjhnfopdlgliaaTeF
import Derived.Maps.Keyed
import Derived.DeepKeys4
import Derived.Maps.OwnOps
set_option linter.unusedVariables false
set_option linter.unusedSimpArgs false
namespace Go.Proofs.Ytdjhnfopdlgliaa
open Go.RowKit Go.Maps
open Go.ChangeMaps (setBlock)

theorem laidOutT : laidOutB Try.prog = true := by kernel_rfl
theorem rowLb : (73 : TypeId) < Try.prog.types.size := of_decide_eq_true (by kernel_rfl)
theorem wideLb : (match Try.prog.underlying 73 with | some (.array _ _) | some (.struct _) => true | _ => false) = true := by rw [Try.underlying73]
set_option maxRecDepth 100000 in
theorem keyedLb : Maps.Keyed Try.prog 73 := Maps.Keyed.of_law (deep_law_laid laidOutT (m := 2) (by omega) rowLb (by kernel_rfl) wideLb)
def keyV (k : St × Int) : Value := .agg #[.string (bs k.1), .int .i64 k.2]
theorem keyV_inj {a b : St × Int} (h : keyV a = keyV b) : a = b := by
  simp only [keyV, Value.agg.injEq, Array.mk.injEq, List.cons.injEq, Value.string.injEq, Value.int.injEq, true_and, and_true] at h
  exact Prod.ext (bs_inj h.1) h.2
theorem keyOfLb (s : St) (i : Int) (hs : s.length ≤ 1000) (hi : Wide i) : ∃ l, keyOf Try.prog 73 (keyV (s, i)) = some l := by
  unfold Wide at hi
  have hu := Try.underlying73
  have h0 : Try.prog.keyType 73 = true := by kernel_rfl
  have h1 : Try.prog.cellsOf 73 = 2 := by kernel_rfl
  have h2 : Try.prog.cellsOf 9 = 1 := by kernel_rfl
  have h3 : Try.prog.cellsOf 3 = 1 := by kernel_rfl
  obtain ⟨m, hm⟩ : ∃ m, Try.prog.types.size + 1 = m + 2 := ⟨Try.prog.types.size - 1, by have : (73 : Nat) < Try.prog.types.size := rowLb; omega⟩
  have h4 : Value.formed Try.prog 73 (keyV (s, i)) = true := by simp [Value.formed, keyV, hu, h1]
  rw [keyOf, hu]
  simp only [h0, h4, hm]
  simp only [Program.keyLits, hu, keyV, Value.cells, h1, h2, h3, Try.underlying9, Try.underlying3]
  have hw : (Lit.int .i64 i).wf = true := WalkArith.wf_i64 hi
  have hsz : s.length ≤ maxLen := by unfold maxLen; omega
  simp [h2, h3, Try.underlying9, Try.underlying3, hw, hsz]
/-- Block B is a map that holds the keys ks, each with true. -/
def KS (w : World) (B : Nat) (ks : List (St × Int)) : Prop :=
  ∃ es clk, w.heap[B]? = some (.map es clk) ∧ es.toList.map (fun e => e.key) = ks.map keyV ∧ (∀ e ∈ es.toList, e.val = .bool true) ∧ ∀ k ∈ ks, k.1.length ≤ 1000 ∧ Wide k.2
theorem KS.keys {ks : List (St × Int)} {es : Array MapEntry} (h1 : es.toList.map (fun e => e.key) = ks.map keyV) (h2 : ∀ k ∈ ks, k.1.length ≤ 1000 ∧ Wide k.2) : ∀ e ∈ es.toList, ∃ l, keyOf Try.prog 73 e.key = some l := by
  intro e he
  have : e.key ∈ es.toList.map (fun e => e.key) := List.mem_map.2 ⟨e, he, rfl⟩
  rw [h1] at this
  obtain ⟨k, hk, e2⟩ := List.mem_map.1 this
  rw [← e2]
  exact keyOfLb k.1 k.2 (h2 k hk).1 (h2 k hk).2
theorem KS.look {w : World} {B : Nat} {ks : List (St × Int)} (h : KS w B ks) (k : St × Int) (hk : k.1.length ≤ 1000 ∧ Wide k.2) :
    (Instr.lookup 71 (.map (some B)) (keyV k) false).run Try.prog w = .ok (.bool (ks.contains k)) w := by
  obtain ⟨es, clk, hb, he, hv, hw⟩ := h
  obtain ⟨l, hl⟩ := keyOfLb k.1 k.2 hk.1 hk.2
  rcases keyedLb.find w hl es.toList (KS.keys he hw) with ⟨h1, h2⟩ | ⟨j, e0, h1, h2, h3⟩
  · have hc : ks.contains k = false := by
      rw [← Bool.not_eq_true, List.contains_iff_mem]
      intro hm
      have : keyV k ∈ es.toList.map (fun e => e.key) := by rw [he]; exact List.mem_map.2 ⟨k, hm, rfl⟩
      obtain ⟨e, he2, e3⟩ := List.mem_map.1 this
      exact h2 e he2 e3
    rw [hc]
    simp [Instr.lookup, run_underlying Try.underlying71, MapKept.run_getObj_map hb, keyedLb.check w _ hl, h1, Result.andThen]
  · have hm : e0 ∈ es.toList := List.mem_of_getElem? h2
    have hc : ks.contains k = true := by
      rw [List.contains_iff_mem]
      have : e0.key ∈ es.toList.map (fun e => e.key) := List.mem_map.2 ⟨e0, hm, rfl⟩
      rw [he, h3] at this
      obtain ⟨k2, hk2, e2⟩ := List.mem_map.1 this
      have e4 := keyV_inj (b := k) e2
      rw [← e4]; exact hk2
    rw [hc]
    simp [Instr.lookup, run_underlying Try.underlying71, MapKept.run_getObj_map hb, keyedLb.check w _ hl, h1, Result.andThen, hv e0 hm]
theorem KS.put {w : World} {B : Nat} {ks : List (St × Int)} (h : KS w B ks) (k : St × Int) (hk : k.1.length ≤ 1000 ∧ Wide k.2) (hn : ks.contains k = false) :
    ∃ o, (Instr.mapUpdate 71 (.map (some B)) (keyV k) (.bool true)).run Try.prog w = .ok () (setBlock w B o) ∧ KS (setBlock w B o) B (ks ++ [k]) := by
  obtain ⟨es, clk, hb, he, hv, hw⟩ := h
  obtain ⟨l, hl⟩ := keyOfLb k.1 k.2 hk.1 hk.2
  rcases keyedLb.find w hl es.toList (KS.keys he hw) with ⟨h1, h2⟩ | ⟨j, e0, h1, h2, h3⟩
  · refine ⟨.map (es.push ⟨keyV k, .bool true, clk⟩) (clk + 1), ?_, es.push ⟨keyV k, .bool true, clk⟩, clk + 1, ?_, ?_, ?_, ?_⟩
    · simp [Instr.mapUpdate, run_underlying Try.underlying71, MapKept.run_getObj_map hb, keyedLb.check w _ hl, h1, MapKept.run_setObj_map _ hb, Result.andThen, setBlock]
    · have hB : B < w.heap.size := (Array.getElem?_eq_some_iff.1 hb).1
      simp [setBlock, hB]
    · simp [he]
    · intro e hm
      simp only [Array.toList_push, List.mem_append, List.mem_singleton] at hm
      rcases hm with q | rfl
      · exact hv e q
      · rfl
    · intro k2 hm
      rcases List.mem_append.1 hm with q | q
      · exact hw k2 q
      · rw [List.mem_singleton] at q; subst q; exact hk
  · exfalso
    have hm : e0 ∈ es.toList := List.mem_of_getElem? h2
    have : e0.key ∈ es.toList.map (fun e => e.key) := List.mem_map.2 ⟨e0, hm, rfl⟩
    rw [he, h3] at this
    obtain ⟨k2, hk2, e2⟩ := List.mem_map.1 this
    rw [← Bool.not_eq_true, List.contains_iff_mem] at hn
    have e4 := keyV_inj (b := k) e2
    exact hn (by rw [← e4]; exact hk2)
end Go.Proofs.Ytdjhnfopdlgliaa

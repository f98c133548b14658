/- A strings.Builder beside rows of other types; Format's plain form. -/
import Derived.Test.YtadldblpkgackaaGreatDoorUcB
import Derived.Test.YtadldblpkgackaaGreatDoorUdD
import Derived.Shelf.Strings.BuilderK
import Derived.Shelf.Strings.BuilderF
set_option linter.unusedVariables false
set_option linter.unusedSimpArgs false
namespace Go.Proofs.YtadldblpkgackaaGreatDoor
open Go.RowKit
open Classical

/-- The builder in block b holds the text l. -/
def Bld (B b : Nat) (l : St) (w : World) : Prop := Lib.IsBuilderF 79 5 B b (Lib.byteCells l) w
theorem Bld.gr {B b : Nat} {l : St} {w w' : World} (h : Bld B b l w) (hg : Gr w w') : Bld B b l w' := by
  have key : ∀ {p : Value}, Lib.BuilderAtF 79 5 B b p (Lib.byteCells l) w → Lib.BuilderAtF 79 5 B b p (Lib.byteCells l) w' := by
    rintro p ⟨h1, v, h2, h3, h4⟩
    have hb := hg.below
    have hlt := (Array.getElem?_eq_some_iff.1 h2).1
    have gb : w.grownBy w' none := ⟨hb.os, hb.tape, hb.output, hb.size, fun k hk _ => hb.block k hk⟩
    exact ⟨h1, v, by rw [hb.block b hlt]; exact h2, h3.kept gb (by cases v.ownBlock <;> simp), h4⟩
  exact h.imp key key
theorem Bld.new (w : World) (B : Nat) (hB : B ≤ w.heap.size) : Bld B w.heap.size [] (w.alloc (.cells #[.pointer none, .slice none 0 0] 79)) :=
  .inl ⟨hB, .slice none 0 0, Row.new w #[.pointer none, .slice none 0 0] 79, World.ownsRowF_nil _ _ _ _, by simp [Value.ownBlock]⟩
theorem Bld.ty {B b : Nat} {l : St} {w : World} (h : Bld B b l w) : Ty w b 79 := by
  rcases h with ⟨_, v, h, _⟩ | ⟨_, v, h, _⟩ <;> exact ⟨_, _, h⟩
theorem Row.others {w w' : World} {b B T : Nat} {vs : List Value} (h : Row w B T vs) (ho : Lib.OthersKept 5 (some b) w w') (hb : B ≠ b) (hT : T ≠ 5) : Row w' B T vs :=
  ho B _ h (by simpa using hb) (fun c fz e => by injection e with _ e2; exact hT e2)
theorem strCells_bs (s : St) : Lib.strCells (bs s) = Lib.byteCells s := by unfold Lib.strCells Lib.byteCells; rw [bs_data]
theorem byteCells_app (a b : St) : Lib.byteCells a ++ Lib.byteCells b = Lib.byteCells (a ++ b) := by unfold Lib.byteCells; rw [List.map_append]
theorem byteCells_len (a : St) : (Lib.byteCells a).length = a.length := by unfold Lib.byteCells; rw [List.length_map]
theorem write_any (B b : Nat) (l s : St) (w : World) (h : Bld B b l w) (hl : l.length + s.length ≤ 140737488355328) (hB : B ≤ w.heap.size) :
    Calls Tryz.prog 45 #[.pointer (some ⟨b, 0, none⟩), .string (bs s)] w fun e w' => (∃ v, e = .returned v) ∧ Bld B b (l ++ s) w' ∧ Below B w w' ∧ Lib.OthersKept 5 (some b) w w' := by
  refine (Any.Builder_WriteString_k { Tryz.lays156 with } Tryz.Builder_Extra_156 B b (Lib.byteCells l) (bs s) w h (by rw [byteCells_len, bs_size]; exact hl) hB).mono ?_
  rintro e w' ⟨he, h1, h2, h3⟩
  refine ⟨⟨_, he⟩, ?_, h2, h3⟩
  rw [strCells_bs, byteCells_app] at h1
  exact .inr h1
theorem bstr_any (B b : Nat) (l : St) (w : World) (h : Bld B b l w) (hB : B ≤ w.heap.size) :
    Calls Tryz.prog 49 #[.pointer (some ⟨b, 0, none⟩)] w fun e w' => e = .returned (.string (bs l)) ∧ Below B w w' := by
  refine (Any.Builder_String_any_f { Tryz.lays156 with } Tryz.Builder_Extra_156 B b l w h hB).mono ?_
  rintro e w' ⟨he, _, h2⟩
  exact ⟨he, h2⟩
/-! Format in plain lists. -/
def lineR (r : Rul) : St := 9 :: (Lib.join (wordsP r) [32] ++ [10])
def lineS (s : Sch) : St := headP s ++ [10]
def fmtS (s : Sch) : St := lineS s ++ s.rules.flatMap lineR
def fmtP (l : List Sch) : St := l.flatMap fmtS
structure OkS (s : Sch) : Prop where
  comp : visP s.comp = true
  few : s.rules.length ≤ 16
  rls : ∀ r ∈ s.rules, ruleP r = true
theorem chk_zero {l : List Sch} (h : chkSch l = 0) : l.length ≤ 24 ∧ ∀ s ∈ l, OkS s := by
  unfold chkSch at h
  split at h
  · cases h
  · rename_i h1
    split at h
    · cases h
    · rename_i h2
      refine ⟨by omega, fun s hs => ?_⟩
      have a1 : ¬ 16 < s.rules.length := fun q => h1 (.inr (List.any_eq_true.2 ⟨s, hs, by simpa using q⟩))
      have a2 : (!visP s.comp || s.rules.any (fun r => !ruleP r)) = false := by
        cases hz : (!visP s.comp || s.rules.any (fun r => !ruleP r)) with
        | false => rfl
        | true => exact absurd (List.any_eq_true.2 ⟨s, hs, hz⟩) h2
      rw [Bool.or_eq_false_iff] at a2
      refine ⟨by simpa using a2.1, by omega, fun r hr => ?_⟩
      have := List.any_eq_false.1 a2.2 r hr
      simpa using this
theorem lineR_le {r : Rul} (h : ruleP r = true) : (lineR r).length ≤ 3000 := by
  obtain ⟨h1, h2, h3⟩ := words_bnd h (M := 100) (by omega) (rule_name h) (fun s hs => by
    have hw : r.words.all visP = true := by
      unfold ruleP at h
      simp only [Bool.and_eq_true] at h
      exact h.2
    have := vis_len (List.all_eq_true.1 hw s hs)
    omega)
  have := join_le 100 _ h3
  have h4 := Nat.mul_le_mul_right 101 h2
  unfold lineR
  simp only [List.length_cons, List.length_append, List.length_nil]
  omega
theorem head_le {s : Sch} (h : visP s.comp = true) : (lineS s).length ≤ 100 := by
  have := vis_len h
  unfold lineS headP
  split <;> simp [schemaS, closedS] <;> omega
theorem flat_le {α : Type} (f : α → St) (M : Nat) : ∀ l : List α, (∀ x ∈ l, (f x).length ≤ M) → (l.flatMap f).length ≤ l.length * M
  | [], _ => by simp
  | a :: l, h => by
    have h1 := h a (by simp)
    have h2 := flat_le f M l (fun x hx => h x (List.mem_cons_of_mem _ hx))
    rw [List.flatMap_cons, List.length_append, List.length_cons, Nat.add_mul]
    omega
theorem fmtS_le {s : Sch} (h : OkS s) : (fmtS s).length ≤ 50000 := by
  have h1 := head_le h.comp
  have h2 := flat_le lineR 3000 s.rules (fun r hr => lineR_le (h.rls r hr))
  have h3 := Nat.mul_le_mul_right 3000 h.few
  unfold fmtS
  rw [List.length_append]
  omega
theorem fmtP_le {l : List Sch} (hl : l.length ≤ 24) (h : ∀ s ∈ l, OkS s) : (fmtP l).length ≤ 1200000 := by
  have h2 := flat_le fmtS 50000 l (fun s hs => fmtS_le (h s hs))
  have h3 := Nat.mul_le_mul_right 50000 hl
  unfold fmtP
  omega
theorem Gr.bel {w0 w w' : World} (h : Gr w0 w) (k : Below w0.heap.size w w') : Gr w0 w' := Gr.of_below (h.below.trans k)
end Go.Proofs.YtadldblpkgackaaGreatDoor

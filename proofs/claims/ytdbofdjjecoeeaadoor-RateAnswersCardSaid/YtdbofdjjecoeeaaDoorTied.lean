/- The wrap for a row that lists variables, with the world's shape kept: a condition on the world (X) and its shape are both handed to the contract. -/
import Derived.HandedShaped
import Derived.Shelf.Vars
import Derived.Test.YtdbofdjjecoeeaaDoorRead
import Derived.Stop.LaidErr
import Derived.LaidMore
import Derived.Stop.Joined
set_option linter.unusedVariables false
namespace Go.Proofs.YtdbofdjjecoeeaaDoor
open Go Go.RowKit
variable {H : Type} {enc : TypeId × Value → H}
theorem handed_shaped_and {a : Assume} {C : Checked} {os : Os} {f : FuncId} {fn : Func} {s : ChangeSpec} {conds : List PathCond} {apart fresh handsOn again : Bool} {X : World → Array Value → Prop}
    (hX : ∀ (w w' : World) (args : Array Value), w.heap = w'.heap → X w args → X w' args)
    (own : ownKnob C.prog.godebug = none) (started : os.Started) (noInit : C.prog.inits.idxOf? f = none) (hfn : C.prog.funcs[f]? = some fn)
    (witness : ∃ (w : World) (tape : Go.Tape) (i : Input), w.os = os ∧ (w.forCall tape i).Shaped C.prog ∧ i.vars = [] ∧ Input.okWide C.prog (w.forCall tape i) .any w.heap.size f i ∧
      ((s.pre enc C.prog fn conds apart (w.forCall tape i).memory i.args ∧ X (w.forCall tape i).memory i.args) ∧ sizedMet enc C.prog fn (OpenSpec.ofChange s) apart (w.forCall tape i).memory i.args) ∧ a.holds C.prog (lone (Frame.enter C.prog f i.args .normal) [] (w.forCall tape i)))
    (contract : ∀ (W : World) (base : Nat) (args : Array Value) (ds gs : List (DataW H)) (before : List MemPlace),
      (∀ (j : Nat) t v, fn.params[j]? = some t → args[j]? = some v → Value.okWide C.prog W .any base t v) →
      DataW.Whole enc C.prog fn.params.toList s.vars apart W args.toList ds gs before → X W args → W.ShapedOpen C.prog →
      Calls C.prog f args W fun e W' => ∃ v, e = .returned v ∧ s.post enc C.prog fn apart fresh handsOn again W args v W') :
    ReturnsInHanded a C os f .any (fun w args => (s.pre enc C.prog fn conds apart w args ∧ X w args) ∧ sizedMet enc C.prog fn (OpenSpec.ofChange s) apart w args) (s.post enc C.prog fn apart fresh handsOn again) := by
  refine returnsInHanded_of_calls own started noInit witness ?_
  intro w tape i _ hsh _ hok hpre hholds
  obtain ⟨_, _, _, fn', hfn', _, _, _, _, hval⟩ := hok
  have e : fn' = fn := Option.some.inj (hfn'.symm.trans hfn)
  subst e
  obtain ⟨⟨⟨ds, gs, before, hw, hc⟩, hx⟩, hz⟩ := hpre
  have hw' := DataW.Whole.of_heap (w' := w.forCall tape i) (by rfl) hw
  refine (contract (w.forCall tape i) w.heap.size i.args ds gs before hval hw' (hX _ _ _ (by rfl) hx) hsh).mono fun e W' ⟨v, he, hp⟩ => ?_
  subst he
  exact ChangeSpec.post_blind hp

theorem tPow : (Tryd.prog.globals[3]?).map (·.type) = some 91 := by kernel_rfl
theorem tSyn : (Tryd.prog.globals[1]?).map (·.type) = some 59 := by kernel_rfl
theorem tRng : (Tryd.prog.globals[2]?).map (·.type) = some 59 := by kernel_rfl
theorem starName : "*" ++ "errors.errorString" = "*errors.errorString" := by decide
theorem rowES (u : TypeId) (h : Tryd.prog.typeName? 3 u = some "*errors.errorString") : u = 99 :=
  typeName_ptr_named (nm := "errors.errorString") (by rw [starName]; kernel_rfl) (by kernel_rfl) (by decide) u (by rw [starName]; exact h)
theorem cellsES : Tryd.prog.cellsOf 101 = 1 := by kernel_rfl
theorem cellsStr : Tryd.prog.cellsOf 9 = 1 := by kernel_rfl
theorem libs_of {W : World} (h : laidMetH Tryd.prog Rows.rateUndoRow.laid W) (hsh : W.ShapedOpen Tryd.prog) : Libs W := by
  rw [MakeChecks.laidMetH_plain _ _ _ (by kernel_rfl)] at h
  obtain ⟨a1, s1, h1, -, -, -⟩ := laid_sentinel (h.tail.tail.tail) rngNamed tRng Tryd.underlying59 rowES Tryd.underlying99 Tryd.underlying101 rfl rfl Tryd.underlying9 cellsES cellsStr
  obtain ⟨a2, s2, h2, -, -, -⟩ := laid_sentinel (h.tail.tail.tail.tail) synNamed tSyn Tryd.underlying59 rowES Tryd.underlying99 Tryd.underlying101 rfl rfl Tryd.underlying9 cellsES cellsStr
  refine ⟨Lib.tabIs_of_head powNamed tPow Tryd.underlying91 Tryd.underlying78 (by kernel_rfl) (by kernel_rfl) (h.tail.tail), ?_, ⟨_, _, h2⟩, ⟨_, _, h1⟩⟩
  exact cell_of_shapedOpen_int (t := 3) (zero := #[.int .i64 0]) hsh (of_decide_eq_true (by kernel_rfl)) (by kernel_rfl) rfl (by kernel_rfl) (by kernel_rfl) Tryd.underlying3
end Go.Proofs.YtdbofdjjecoeeaaDoor

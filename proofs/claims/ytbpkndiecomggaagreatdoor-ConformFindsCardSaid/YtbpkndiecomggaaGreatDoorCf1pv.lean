/- Lemmas and contracts for the proof of ConformFinds (several texts in one, printed by wip/tools/pack.py): WdT. -/
import Derived.HandedShaped
import Derived.Shelf.Vars
import Derived.Test.YtbpkndiecomggaaGreatDoorCf1pr
import Derived.Test.YtbpkndiecomggaaGreatDoorRows
import Derived.Stop.LaidErr
import Derived.LaidMore
import Derived.Stop.Joined
set_option maxRecDepth 100000
set_option maxHeartbeats 16000000
set_option linter.unusedVariables false
namespace Go.Proofs.YtbpkndiecomggaaGreatDoor
open Go Go.RowKit
variable {H : Type} {enc : TypeId × Value → H}
theorem handed_shaped_and {a : Assume} {C : Checked} {os : Os} {f : FuncId} {fn : Func} {s : ChangeSpec} {conds : List PathCond} {apart fresh handsOn again : Bool} {X : World → Array Value → Prop}
    (hX : ∀ (w w' : World) (args : Array Value), w.heap = w'.heap → X w args → X w' args)
    (own : ownKnob C.prog.godebug = none) (started : os.Started) (noInit : C.prog.inits.idxOf? f = none) (hfn : C.prog.funcs[f]? = some fn)
    (witness : ∃ (w : World) (tape : Go.Tape) (i : Input), w.os = os ∧ (w.forCall tape i).Shaped C.prog ∧ i.vars = [] ∧ Input.okWide C.prog (w.forCall tape i) .any w.heap.size f i ∧
      ((s.pre enc C.prog fn conds apart (w.forCall tape i).memory i.args ∧ X (w.forCall tape i).memory i.args) ∧ sizedMet enc C.prog fn (OpenSpec.ofChange s) apart (w.forCall tape i).memory i.args) ∧ a.holds C.prog (lone (Frame.enter C.prog f i.args .normal) [] (w.forCall tape i)))
    (contract : ∀ (W : World) (base : Nat) (args : Array Value) (ds gs : List (DataW H)) (before : List MemPlace),
      (∀ (j : Nat) t v, fn.params[j]? = some t → args[j]? = some v → Value.okWide C.prog W .any base t v) →
      DataW.Whole enc C.prog fn.params.toList s.vars apart W args.toList ds gs before → X W args → W.ShapedOpen C.prog →
      Calls C.prog f args W fun e W' => ∃ v, e = .returned v ∧ s.post enc C.prog fn apart fresh handsOn again W args v W') :
    ReturnsInHanded a C os f .any (fun w args => (s.pre enc C.prog fn conds apart w args ∧ X w args) ∧ sizedMet enc C.prog fn (OpenSpec.ofChange s) apart w args) (s.post enc C.prog fn apart fresh handsOn again) := by
  refine returnsInHanded_of_calls own started noInit witness ?_
  intro w tape i _ hsh _ hok hpre hholds
  obtain ⟨_, _, _, fn', hfn', _, _, _, _, hval⟩ := hok
  have e : fn' = fn := Option.some.inj (hfn'.symm.trans hfn)
  subst e
  obtain ⟨⟨⟨ds, gs, before, hw, hc⟩, hx⟩, hz⟩ := hpre
  have hw' := DataW.Whole.of_heap (w' := w.forCall tape i) (by rfl) hw
  refine (contract (w.forCall tape i) w.heap.size i.args ds gs before hval hw' (hX _ _ _ (by rfl) hx) hsh).mono fun e W' ⟨v, he, hp⟩ => ?_
  subst he
  exact ChangeSpec.post_blind hp
theorem cellsStr : Tryz.prog.cellsOf 9 = 1 := by kernel_rfl
theorem stdNamed : Tryz.prog.globalNamed "bringup/conform.standard" = some 0 := by kernel_rfl
theorem tStd : (Tryz.prog.globals[0]?).map (·.type) = some 125 := by kernel_rfl
theorem std_of_laid {W : World} {rest : List (String × DataW Unit)} (h : laidMet Tryz.prog (("bringup/conform.standard", Rows.laid_bringup_conform_standard) :: rest) W) : StdV W := by
  obtain ⟨ps, ⟨g', t', cs, fuel, p, q, hg', ht', hvar, hd, _, _⟩, _⟩ := h
  obtain rfl := Option.some.inj (stdNamed.symm.trans hg')
  obtain rfl := Option.some.inj (tStd.symm.trans ht')
  obtain ⟨xs, m, _, hx, hl, hn, hf⟩ := DataW.trod_array (n := 7) (e := 9) Tryz.underlying125 hd
  have hxs : xs.map (·.1) = stdS.map (fun s => (.lit (.string s) : DataW Unit)) := by
    have := congrArg Prod.fst hx
    exact (DataW.agg.inj this).symm
  intro i hi
  have hi2 : i < xs.length := by rw [hn]; exact hi
  have hfi := hf i hi
  rw [cellsStr, Nat.mul_one, List.getElem?_eq_getElem hi2] at hfi
  obtain ⟨s, hcs, hxi, _⟩ := DataW.trod_string Tryz.underlying9 hfi
  have e1 : (xs.map (·.1))[i]? = some (.lit (.string s.data.toList)) := by
    rw [List.getElem?_map, List.getElem?_eq_getElem hi2, hxi]; rfl
  have hk : i < stdS.length := hi
  rw [hxs, List.getElem?_map, List.getElem?_eq_getElem hk] at e1
  have e2 : stdS[i] = s.data.toList := by
    have := Option.some.inj e1
    simpa using this
  have hv := World.var?_cell stdNamed hvar i
  have e3 : cs.toList[i]? = some (.string s) := by
    have := congrArg (·[0]?) hcs
    simpa [List.getElem?_take, List.getElem?_drop] using this
  rw [hv]
  have e4 : s = bs (stdS[i]) := by rw [e2]; exact bs_of s
  have e5 : cs[i]? = some (.string s) := by simpa using e3
  exact e5.trans (congrArg (fun z => some (Value.string z)) e4)
def Libs (w : World) : Prop := MaxV w ∧ StdV w
theorem libs_of {W : World} (h : laidMetH Tryz.prog Rows.conformUnknownRow.laid W) (hsh : W.ShapedOpen Tryz.prog) : Libs W := by
  rw [MakeChecks.laidMetH_plain _ _ _ (by kernel_rfl)] at h
  refine ⟨?_, std_of_laid h.tail⟩
  exact cell_of_shapedOpen_int (t := 3) (zero := #[.int .i64 0]) hsh (of_decide_eq_true (by kernel_rfl)) (by kernel_rfl) rfl (by kernel_rfl) (by kernel_rfl) Tryz.underlying3
end Go.Proofs.YtbpkndiecomggaaGreatDoor

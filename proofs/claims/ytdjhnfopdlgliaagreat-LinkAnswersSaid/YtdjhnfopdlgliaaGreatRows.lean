/-
  No cell of these rows narrows 'for every input' (looked for: loops, veiled, ifaces, maps, wideKeys, modest, calm, conditions, laid).
  DERIVED. THE GIVEN ROWS OF THIS SEAT. 4 by the template 'for every input the law returns true; each argument reads behind the call as it read before'; 0 by the template 'total and deterministic' (their statements: YtdjhnfopdlgliaaGreatTotals.lean).
  GIVEN WITH THE SEED: the statements are not yours to turn. If you find one false, say at which input.
  Laid BY PROGRAM, IN A SANDBOX (cutbox-rows.mjs): the forced cells as the released guide's own fill.sh prints them over the translation c27ebda3959d214b… (all of the seat's roots in one cut). By AI agents, Wed Nov 11 2026. No macro, syntax, notation, axiom, sorry.
-/
import Derived.Test.YtdjhnfopdlgliaaGreatChecked
import GoSem.Claim
import GoSem.ClaimJoined
import GoSem.ClaimMapViews
import Derived.JoinedTies
import Derived.KernelRfl
namespace Go.Proofs.YtdjhnfopdlgliaaGreat
/- THE CELL 'sum', in the pinned program and in every row, IS THE sha256 OF THE DUMP (.gsa) THAT YtdjhnfopdlgliaaGreatProg.lean LOADS. Nothing in Lean hashes anything: it is a label: what it is worth is what the hold of that sum in a sandbox is worth. -/
noncomputable def Tryz.pinned : Pinned := { name := "ytdjhnfopdlgliaagreat", sum := "c27ebda3959d214bc045df4ecf06721bcedb911291122f0384a3388cea2cb722", checked := Tryz.checked }
namespace Rows
def none {H : Type} : Left H := { results := [], args := [] }

/-- 'bringuplaw12.LinkSources': WHATEVER THE INPUT: true; the input reads as it did. -/
def linkSourcesSpec : ChangeSpec := { name := "linkSources", fn := fun _ => fun
  | [d1, d2] => { results := [.lit (.bool true)], args := [d1, d2] }
  | _ => none }
def linkSourcesRow : OpenClaim := { program := "ytdjhnfopdlgliaagreat", sum := "c27ebda3959d214bc045df4ecf06721bcedb911291122f0384a3388cea2cb722", func := "bringup/bringuplaw12.LinkSources", spec := "linkSources", inPlace := ["internal/bytealg.IndexByteString", "internal/bytealg.IndexString"], unfollowed := true, recurses := true, named := ["internal/bytealg.MaxLen"], plainKeys := false, apart := false }
def LinkSourcesSaid : Prop := linkSourcesRow.holds Tryz.pinned (OpenSpec.ofChange linkSourcesSpec)

/-- ITS FALSE NEIGHBOUR: 'it returns false'. Refute it at one input. -/
def linkSourcesWrong : ChangeSpec := { name := "linkSources", fn := fun _ => fun
  | [d1, d2] => { results := [.lit (.bool false)], args := [d1, d2] }
  | _ => none }
def LinkSourcesWrongFalsely : Prop := linkSourcesRow.holds Tryz.pinned (OpenSpec.ofChange linkSourcesWrong)

/-- 'bringuplaw12.LinkConsumers': WHATEVER THE INPUT: true; the input reads as it did. -/
def linkConsumersSpec : ChangeSpec := { name := "linkConsumers", fn := fun _ => fun
  | [d] => { results := [.lit (.bool true)], args := [d] }
  | _ => none }
def linkConsumersRow : OpenClaim := { program := "ytdjhnfopdlgliaagreat", sum := "c27ebda3959d214bc045df4ecf06721bcedb911291122f0384a3388cea2cb722", func := "bringup/bringuplaw12.LinkConsumers", spec := "linkConsumers", inPlace := ["internal/bytealg.IndexByteString", "internal/bytealg.IndexString"], unfollowed := true, recurses := true, named := ["internal/bytealg.MaxLen"], plainKeys := false, apart := false }
def LinkConsumersSaid : Prop := linkConsumersRow.holds Tryz.pinned (OpenSpec.ofChange linkConsumersSpec)

/-- ITS FALSE NEIGHBOUR: 'it returns false'. Refute it at one input. -/
def linkConsumersWrong : ChangeSpec := { name := "linkConsumers", fn := fun _ => fun
  | [d] => { results := [.lit (.bool false)], args := [d] }
  | _ => none }
def LinkConsumersWrongFalsely : Prop := linkConsumersRow.holds Tryz.pinned (OpenSpec.ofChange linkConsumersWrong)

/-- 'bringuplaw12.LinkOrders': WHATEVER THE INPUT: true; the input reads as it did. -/
def linkOrdersSpec : ChangeSpec := { name := "linkOrders", fn := fun _ => fun
  | [d] => { results := [.lit (.bool true)], args := [d] }
  | _ => none }
def linkOrdersRow : OpenClaim := { program := "ytdjhnfopdlgliaagreat", sum := "c27ebda3959d214bc045df4ecf06721bcedb911291122f0384a3388cea2cb722", func := "bringup/bringuplaw12.LinkOrders", spec := "linkOrders", inPlace := ["internal/bytealg.IndexByteString", "internal/bytealg.IndexString"], unfollowed := true, recurses := true, named := ["internal/bytealg.MaxLen"], plainKeys := false, apart := false }
def LinkOrdersSaid : Prop := linkOrdersRow.holds Tryz.pinned (OpenSpec.ofChange linkOrdersSpec)

/-- ITS FALSE NEIGHBOUR: 'it returns false'. Refute it at one input. -/
def linkOrdersWrong : ChangeSpec := { name := "linkOrders", fn := fun _ => fun
  | [d] => { results := [.lit (.bool false)], args := [d] }
  | _ => none }
def LinkOrdersWrongFalsely : Prop := linkOrdersRow.holds Tryz.pinned (OpenSpec.ofChange linkOrdersWrong)

/-- 'bringuplaw12.LinkAnswers': WHATEVER THE INPUT: true; the input reads as it did. -/
def linkAnswersSpec : ChangeSpec := { name := "linkAnswers", fn := fun _ => fun
  | [d1, d2, d3, d4, d5] => { results := [.lit (.bool true)], args := [d1, d2, d3, d4, d5] }
  | _ => none }
def linkAnswersRow : OpenClaim := { program := "ytdjhnfopdlgliaagreat", sum := "c27ebda3959d214bc045df4ecf06721bcedb911291122f0384a3388cea2cb722", func := "bringup/bringuplaw12.LinkAnswers", spec := "linkAnswers", inPlace := ["internal/bytealg.IndexByteString", "internal/bytealg.IndexString"], unfollowed := true, recurses := true, named := ["internal/bytealg.MaxLen"], plainKeys := false, apart := false }
def LinkAnswersSaid : Prop := linkAnswersRow.holds Tryz.pinned (OpenSpec.ofChange linkAnswersSpec)

/-- ITS FALSE NEIGHBOUR: 'it returns false'. Refute it at one input. -/
def linkAnswersWrong : ChangeSpec := { name := "linkAnswers", fn := fun _ => fun
  | [d1, d2, d3, d4, d5] => { results := [.lit (.bool false)], args := [d1, d2, d3, d4, d5] }
  | _ => none }
def LinkAnswersWrongFalsely : Prop := linkAnswersRow.holds Tryz.pinned (OpenSpec.ofChange linkAnswersWrong)

/- THE SECOND FORM. 'bulk': how many values and letters a reading holds, each counted each time it is reached (what is shared counts as often as it is met; a slice's spare places count too). A statement '..UptoSaid' is the law's where the arguments, and the package variables that the reading takes, are together of bulk at most 1048576: NARROWER than '..Said'. Prove '..Said' where nothing that the law and all that it calls make is longer than what came in: it says more and counts as full. Else prove '..UptoSaid'. A law counts once. -/
mutual
def uptoBulk {H : Type} : DataW H → Nat
  | .lit (.string bytes) => bytes.length + 1
  | .lit _ => 1
  | .nil => 1
  | .ptr d => uptoBulk d + 1
  | .slice elems spare => uptoBulkAll elems + uptoBulkAll spare + 1
  | .agg parts => uptoBulkAll parts + 1
  | .iface _ d => uptoBulk d + 1
  | .map entries => uptoBulkEntries entries + 1
  | .held _ => 1
def uptoBulkAll {H : Type} : List (DataW H) → Nat
  | [] => 0
  | d :: r => uptoBulk d + uptoBulkAll r
def uptoBulkEntries {H : Type} : List (Lit × DataW H) → Nat
  | [] => 0
  | x :: r => uptoBulkEntry x + uptoBulkEntries r
def uptoBulkEntry {H : Type} : Lit × DataW H → Nat
  | (.string bytes, d) => bytes.length + uptoBulk d + 1
  | (_, d) => uptoBulk d + 1
 end
def uptoSmall : (H : Type) → List (DataW H) → Bool := fun _ ds => decide (uptoBulkAll ds ≤ 1048576)
def OpenSpec.upto (s : _root_.Go.ChangeSpec) : _root_.Go.OpenSpec := { _root_.Go.OpenSpec.ofChange s with cond := some uptoSmall }

/-- 'bringuplaw12.LinkSources', WHERE WHAT IT READS IS OF BULK AT MOST 1048576: true; the input reads as it did. -/
def linkSourcesUptoRow : OpenClaim := { program := "ytdjhnfopdlgliaagreat", sum := "c27ebda3959d214bc045df4ecf06721bcedb911291122f0384a3388cea2cb722", func := "bringup/bringuplaw12.LinkSources", spec := "linkSources", inPlace := ["internal/bytealg.IndexByteString", "internal/bytealg.IndexString"], unfollowed := true, recurses := true, named := ["internal/bytealg.MaxLen"], plainKeys := false, apart := false, narrowed := true }
def LinkSourcesUptoSaid : Prop := linkSourcesUptoRow.holds Tryz.pinned (OpenSpec.upto linkSourcesSpec)

/-- 'bringuplaw12.LinkConsumers', WHERE WHAT IT READS IS OF BULK AT MOST 1048576: true; the input reads as it did. -/
def linkConsumersUptoRow : OpenClaim := { program := "ytdjhnfopdlgliaagreat", sum := "c27ebda3959d214bc045df4ecf06721bcedb911291122f0384a3388cea2cb722", func := "bringup/bringuplaw12.LinkConsumers", spec := "linkConsumers", inPlace := ["internal/bytealg.IndexByteString", "internal/bytealg.IndexString"], unfollowed := true, recurses := true, named := ["internal/bytealg.MaxLen"], plainKeys := false, apart := false, narrowed := true }
def LinkConsumersUptoSaid : Prop := linkConsumersUptoRow.holds Tryz.pinned (OpenSpec.upto linkConsumersSpec)

/-- 'bringuplaw12.LinkOrders', WHERE WHAT IT READS IS OF BULK AT MOST 1048576: true; the input reads as it did. -/
def linkOrdersUptoRow : OpenClaim := { program := "ytdjhnfopdlgliaagreat", sum := "c27ebda3959d214bc045df4ecf06721bcedb911291122f0384a3388cea2cb722", func := "bringup/bringuplaw12.LinkOrders", spec := "linkOrders", inPlace := ["internal/bytealg.IndexByteString", "internal/bytealg.IndexString"], unfollowed := true, recurses := true, named := ["internal/bytealg.MaxLen"], plainKeys := false, apart := false, narrowed := true }
def LinkOrdersUptoSaid : Prop := linkOrdersUptoRow.holds Tryz.pinned (OpenSpec.upto linkOrdersSpec)

/-- 'bringuplaw12.LinkAnswers', WHERE WHAT IT READS IS OF BULK AT MOST 1048576: true; the input reads as it did. -/
def linkAnswersUptoRow : OpenClaim := { program := "ytdjhnfopdlgliaagreat", sum := "c27ebda3959d214bc045df4ecf06721bcedb911291122f0384a3388cea2cb722", func := "bringup/bringuplaw12.LinkAnswers", spec := "linkAnswers", inPlace := ["internal/bytealg.IndexByteString", "internal/bytealg.IndexString"], unfollowed := true, recurses := true, named := ["internal/bytealg.MaxLen"], plainKeys := false, apart := false, narrowed := true }
def LinkAnswersUptoSaid : Prop := linkAnswersUptoRow.holds Tryz.pinned (OpenSpec.upto linkAnswersSpec)

end Rows
end Go.Proofs.YtdjhnfopdlgliaaGreat

/- Cells, phandles and lists of links in plain lists. -/
import Derived.Test.YtdjhnfopdlgliaaTeA
set_option linter.unusedVariables false
set_option linter.unusedSimpArgs false
namespace Go.Proofs.Ytdjhnfopdlgliaa
open Go.RowKit

def cell4 (n : Nat) : St := [UInt8.ofNat (n / 16777216), UInt8.ofNat (n / 65536), UInt8.ofNat (n / 256), UInt8.ofNat n]
def num4 (a b c d : UInt8) : Nat := a.toNat * 16777216 + b.toNat * 65536 + c.toNat * 256 + d.toNat
def cellsL : St → List Int
  | a :: b :: c :: d :: r => ((num4 a b c d : Nat) : Int) :: cellsL r
  | _ => []
def cellsOk (v : St) : Bool := !v.isEmpty && v.length % 4 == 0
def cellsS (l : List Nat) : St := l.flatMap cell4
theorem num4_cell4 (n : Nat) (h : n < 4294967296) : num4 (UInt8.ofNat (n / 16777216)) (UInt8.ofNat (n / 65536)) (UInt8.ofNat (n / 256)) (UInt8.ofNat n) = n := by
  unfold num4
  simp only [UInt8.toNat_ofNat']
  omega
theorem cellsL_cell4 (n : Nat) (h : n < 4294967296) (r : St) : cellsL (cell4 n ++ r) = (n : Int) :: cellsL r := by
  simp only [cell4, List.cons_append, List.nil_append, cellsL, num4_cell4 n h]
theorem cellsL_cellsS (l : List Nat) (h : ∀ n ∈ l, n < 4294967296) : cellsL (cellsS l) = l.map (fun n : Nat => (n : Int)) := by
  induction l with
  | nil => rfl
  | cons n l ih =>
    unfold cellsS at ih ⊢
    rw [List.flatMap_cons, cellsL_cell4 n (h n (List.mem_cons_self ..)), ih (fun m hm => h m (List.mem_cons_of_mem _ hm))]; rfl
theorem cell4_length (n : Nat) : (cell4 n).length = 4 := rfl
theorem cellsS_length (l : List Nat) : (cellsS l).length = 4 * l.length := by
  induction l with
  | nil => rfl
  | cons n l ih => unfold cellsS at ih ⊢; rw [List.flatMap_cons, List.length_append, ih, cell4_length, List.length_cons]; omega
theorem cellsL_length : ∀ (v : St), (cellsL v).length = v.length / 4
  | [] => rfl
  | [_] => by simp [cellsL]
  | [_, _] => by simp [cellsL]
  | [_, _, _] => by simp [cellsL]
  | a :: b :: c :: d :: r => by
    rw [cellsL, List.length_cons, cellsL_length r]; simp only [List.length_cons]; omega
def valP (ps : List Prp) (name : St) : Option St := (ps.find? (fun p => p.name == name)).map Prp.val
def phS : St := [112, 104, 97, 110, 100, 108, 101]
def phan (ts : Tr) (p : Int) : Option Nat :=
  if 1 ≤ p ∧ p ≤ 1048576 then ts.findIdx? (fun n => n.props.contains ⟨phS, cell4 p.toNat⟩) else none
def argsN (ts : Tr) (prov : Nat) (cn : St) : Option Int :=
  match valP (ts.getD prov default).props cn with
  | none => some 0
  | some v => if cellsOk v = true ∧ (cellsL v).length = 1 ∧ (cellsL v).getD 0 0 ≤ 8 then some ((cellsL v).getD 0 0) else none
structure Lnk where
  node : Int
  prov : Int
  prop : St
  idx : Int
  args : List Int
  deriving DecidableEq
instance : Inhabited Lnk := ⟨⟨0, 0, [], 0, []⟩⟩
/-- The elements of a list, or an error. -/
def ofF (ts : Tr) (node : Int) (pn cn : St) : Nat → List Int → List Lnk → Except Int (List Lnk)
  | 0, _, out => .ok out
  | _ + 1, [], out => .ok out
  | f + 1, p :: l, out =>
    match phan ts p with
    | none => .error 25
    | some k =>
      match argsN ts k cn with
      | none => .error 26
      | some n => if (l.length : Int) < n then .error 26 else ofF ts node pn cn f (l.drop n.toNat) (out ++ [⟨node, k, pn, out.length, l.take n.toNat⟩])
def ofT (ts : Tr) (node : Nat) (pn cn : St) : Except Int (List Lnk) :=
  match valP (ts.getD node default).props pn with
  | none => .ok []
  | some v => if v = [] then .ok [] else if cellsOk v then ofF ts node pn cn (cellsL v).length (cellsL v) [] else .error 26
end Go.Proofs.Ytdjhnfopdlgliaa

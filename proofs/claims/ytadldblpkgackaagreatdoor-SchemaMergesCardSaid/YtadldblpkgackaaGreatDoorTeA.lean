/- Trees in plain lists: what a tree is in memory, and the check of a tree. -/
import Derived.Test.YtadldblpkgackaaGreatDoorKa
import Derived.Lib.Strings
set_option linter.unusedVariables false
set_option linter.unusedSimpArgs false
namespace Go.Proofs.YtadldblpkgackaaGreatDoor
open Go.RowKit

/-- A string as a list of bytes. -/
abbrev St := List UInt8
def bs (l : St) : ByteArray := ⟨l.toArray⟩
@[simp, go_sem] theorem bs_data (l : St) : (bs l).data.toList = l := by simp [bs]
@[simp, go_sem] theorem bs_size (l : St) : (bs l).size = l.length := by simp [bs, ByteArray.size]
@[simp, go_sem] theorem bs_toList (l : St) : (bs l).toList = l := by rw [Lib.toList_data, bs_data]
theorem bs_of (s : ByteArray) : s = bs s.data.toList := by
  unfold bs; rw [Lib.mk_data]
@[simp, go_sem] theorem bs_append (a b : St) : bs a ++ bs b = bs (a ++ b) := by
  rw [bs_of (bs a ++ bs b)]; simp [bs, ByteArray.data_append]
@[simp, go_sem] theorem bs_extract (l : St) (a b : Nat) : (bs l).extract a b = bs ((l.drop a).take (b - a)) := by
  rw [bs_of ((bs l).extract a b), Lib.extract_data, bs_data]
@[simp, go_sem] theorem bs_get (l : St) (k : Nat) (h : k < (bs l).size) : (bs l)[k]'h = l[k]'(by simpa using h) := by
  simp [bs, ByteArray.getElem_eq_getElem_data]
@[simp, go_sem] theorem lit_append (a : UInt8) (l : St) : (⟨#[a]⟩ : ByteArray) ++ bs l = bs (a :: l) := bs_append [a] l
theorem bs_inj {a b : St} (h : bs a = bs b) : a = b := by rw [← bs_data a, h, bs_data]
structure Prp where
  name : St
  val : St
  deriving DecidableEq
structure Nod where
  parent : Int
  name : St
  props : List Prp
  deriving DecidableEq
instance : Inhabited Prp := ⟨⟨[], []⟩⟩
instance : Inhabited Nod := ⟨⟨0, [], []⟩⟩
abbrev Tr := List Nod
def RS (w : World) (b o : Nat) (s : St) : Prop := w.cell? ⟨b, o, none⟩ = some (.string (bs s)) ∧ s.length ≤ 9223372036854775807
def RPrp (w : World) (b o : Nat) (p : Prp) : Prop := RS w b o p.name ∧ RS w b (o + 1) p.val
def RNod (w : World) (b o : Nat) (n : Nod) : Prop := RI w b o n.parent ∧ RS w b (o + 1) n.name ∧ RSl 2 RPrp w b (o + 2) n.props
theorem RS.mono : Mono RS := fun _ _ _ _ _ hg h => ⟨cell_gr hg h.1, h.2⟩
theorem RPrp.mono : Mono RPrp := fun _ _ _ _ _ hg h => ⟨RS.mono _ _ _ _ _ hg h.1, RS.mono _ _ _ _ _ hg h.2⟩
theorem RNod.mono : Mono RNod := fun _ _ _ _ _ hg h => ⟨RI.mono _ _ _ _ _ hg h.1, RS.mono _ _ _ _ _ hg h.2.1, RSl.mono RPrp.mono _ _ _ _ _ hg h.2.2⟩

/-! Names. -/
def letC (c : Int) : Bool := decide (97 ≤ c) && decide (c ≤ 122) || decide (65 ≤ c) && decide (c ≤ 90)
def digC (c : Int) : Bool := decide (48 ≤ c) && decide (c ≤ 57)
def wrdC (c : Int) : Bool := letC c || digC c || c == 95
def sgnS : St := [44, 46, 43, 45, 63, 35, 64]
def namC (c : UInt8) : Bool := wrdC c.toNat || sgnS.contains c
def chr (s : St) (i : Nat) : Int := ((s.getD i 0).toNat : Int)
def nameOk (s : St) : Bool := decide (1 ≤ s.length) && decide (s.length ≤ 31) && (letC (chr s 0) || chr s 0 == 95) && s.all namC
def undr (s : St) : St := if s.head? = some 35 then 95 :: s.tail else s
def propOk (s : St) : Bool := nameOk (undr s) && !(undr s).contains 64
def ltS (a b : St) : Bool := Op.bytesLess a b

/-! The check. -/
def nodNm (i : Nat) (n : Nod) : Bool := (if i = 0 then decide (n.parent = -1) && decide (n.name = []) else decide (0 ≤ n.parent) && decide (n.parent < i) && nameOk n.name) && n.props.all (fun p => propOk p.name)
def namedT (ts : Tr) : Bool := (List.range ts.length).all (fun i => nodNm i (ts.getD i default))
def ascP (ps : List Prp) : Bool := (List.range (ps.length - 1)).all (fun k => ltS (ps.getD k default).name (ps.getD (k + 1) default).name)
def par (ts : Tr) (u : Int) : Int := (ts.getD u.toNat default).parent
def climb (ts : Tr) (p : Int) : Nat → Int → Int
  | 0, u => u
  | f + 1, u => if u < 0 then u else if u = p then u else climb ts p f (par ts u)
def walkN (ts : Tr) : Nat → Option (List St)
  | 0 => some (List.replicate ts.length [])
  | i + 1 => match walkN ts i with
    | none => none
    | some last =>
      let n := ts.getD i default
      if ascP n.props then
        if i = 0 then some last else
        let u := climb ts n.parent i (i - 1)
        if u < 0 then none else if ltS n.name (last.getD u.toNat []) then none else some (last.set u.toNat n.name)
      else none
def keyN (n : Nod) : St × Int := (n.name, n.parent)
def dupT (ts : Tr) : Bool := (List.range ts.length).any (fun i => decide (0 < i) && ((ts.take i).map keyN).contains (keyN (ts.getD i default)))
def depN (ts : Tr) : Nat → Int → Nat
  | 0, _ => 0
  | f + 1, u => if 0 < u then depN ts f (par ts u) + 1 else 0
def bigN (n : Nod) : Bool := decide (24 < n.props.length) || n.props.any (fun p => decide (256 < p.val.length))
def chkT (ts : Tr) : Int :=
  if ts.length = 0 ∨ 120 < ts.length then 3 else
  if ts.any bigN then 3 else
  if namedT ts = false then 1 else
  if (walkN ts ts.length).isNone then 12 else
  if dupT ts then 5 else
  if (List.range ts.length).any (fun i => decide (8 < depN ts i (i : Int))) then 2 else 0
end Go.Proofs.YtadldblpkgackaaGreatDoor

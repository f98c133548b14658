/- Schemas in plain lists. -/
import Derived.Test.YtadldblpkgackaaGreatDoorTeA
import Derived.Lib.Split
import Derived.Lib.IndexMore
import Derived.Lib.Join
import Derived.Lib.AtoiAll
import Derived.Lib.ItoaNum
set_option linter.unusedVariables false
set_option linter.unusedSimpArgs false
namespace Go.Proofs.YtadldblpkgackaaGreatDoor
open Go.RowKit

structure Rul where
  name : St
  req : Bool
  kind : Int
  low : Int
  high : Int
  count : Int
  words : List St
  deriving DecidableEq
structure Sch where
  comp : St
  closed : Bool
  rules : List Rul
  deriving DecidableEq
instance : Inhabited Rul := ⟨⟨[], false, 0, 0, 0, 0, []⟩⟩
instance : Inhabited Sch := ⟨⟨[], false, []⟩⟩
def RRul (w : World) (b o : Nat) (r : Rul) : Prop := RS w b o r.name ∧ RB w b (o + 1) r.req ∧ RI w b (o + 2) r.kind ∧ RI w b (o + 3) r.low ∧ RI w b (o + 4) r.high ∧ RI w b (o + 5) r.count ∧ RSl 1 RS w b (o + 6) r.words
def RSch (w : World) (b o : Nat) (s : Sch) : Prop := RS w b o s.comp ∧ RB w b (o + 1) s.closed ∧ RSl 7 RRul w b (o + 2) s.rules
theorem RRul.mono : Mono RRul := fun _ _ _ _ _ hg h => ⟨RS.mono _ _ _ _ _ hg h.1, RB.mono _ _ _ _ _ hg h.2.1, RI.mono _ _ _ _ _ hg h.2.2.1, RI.mono _ _ _ _ _ hg h.2.2.2.1, RI.mono _ _ _ _ _ hg h.2.2.2.2.1, RI.mono _ _ _ _ _ hg h.2.2.2.2.2.1, RSl.mono RS.mono _ _ _ _ _ hg h.2.2.2.2.2.2⟩
theorem RSch.mono : Mono RSch := fun _ _ _ _ _ hg h => ⟨RS.mono _ _ _ _ _ hg h.1, RB.mono _ _ _ _ _ hg h.2.1, RSl.mono RRul.mono _ _ _ _ _ hg h.2.2⟩

/-! The check. -/
def visP (s : St) : Bool := s.all (fun c => decide (33 ≤ c.toNat) && decide (c.toNat ≤ 126)) && decide (1 ≤ s.length) && decide (s.length ≤ 31)
def cntd (k : Int) : Bool := decide (k = 3) || decide (k = 5) || decide (k = 6)
def ruleP (r : Rul) : Bool :=
  propOk r.name && (decide (1 ≤ r.kind) && decide (r.kind ≤ 6)) &&
  (if r.kind = 3 then decide (0 ≤ r.low) && decide (r.high ≤ 4294967295) && decide (r.low ≤ r.high) else decide (r.low = 0) && decide (r.high = 0)) &&
  (decide (0 ≤ r.count) && decide (r.count ≤ 64)) && (decide (r.count = 0) || cntd r.kind) &&
  (if r.kind = 4 then decide (1 ≤ r.words.length) && decide (r.words.length ≤ 16) else decide (r.words.length = 0)) && r.words.all visP
def ascN : List St → Bool
  | [] => true
  | [_] => true
  | a :: b :: l => ltS a b && ascN (b :: l)
def chkSch (l : List Sch) : Int :=
  if 24 < l.length ∨ l.any (fun s => decide (16 < s.rules.length)) = true then 3 else
  if l.any (fun s => !visP s.comp || s.rules.any (fun r => !ruleP r)) = true then 1 else
  if l.any (fun s => !ascN (s.rules.map Rul.name)) = true then 12 else
  if ascN (l.map Sch.comp) = true then 0 else 12

/-! The text. -/
def kindsS : List St := [[], [97, 110, 121], [101, 109, 112, 116, 121], [99, 101, 108, 108, 115], [119, 111, 114, 100], [116, 101, 120, 116], [104, 97, 110, 100, 108, 101]]
def reqS : St := [114, 101, 113, 117, 105, 114, 101, 100]
def schemaS : St := [115, 99, 104, 101, 109, 97, 32]
def closedS : St := [32, 99, 108, 111, 115, 101, 100]
def wordsP (r : Rul) : List St :=
  [r.name] ++ (if r.req = true then [reqS] else []) ++ [kindsS.getD r.kind.toNat []] ++ (if r.kind = 3 then [Lib.itoa r.low ++ ([46, 46] ++ Lib.itoa r.high)] else []) ++ (if r.count = 0 then [] else [120 :: Lib.itoa r.count]) ++ r.words
def headP (s : Sch) : St := if s.closed = true then schemaS ++ s.comp ++ closedS else schemaS ++ s.comp
def idxS (x : St) : Int → List St → Int
  | _, [] => -1
  | k, y :: l => if y = x then k else idxS x (k + 1) l
/-- The value that Atoi returns. -/
def numV (s : St) : Int := match Lib.atoiAll s with
  | .ok v => v
  | .range => Lib.atoiSat s
  | _ => 0
def readHeadP (line : St) : Sch × Bool :=
  if (Lib.split line [32]).length < 2 ∨ 3 < (Lib.split line [32]).length then (default, false)
  else (⟨(Lib.split line [32]).getD 1 [], decide ((Lib.split line [32]).length = 3), []⟩, visP ((Lib.split line [32]).getD 1 []) && decide (headP ⟨(Lib.split line [32]).getD 1 [], decide ((Lib.split line [32]).length = 3), []⟩ = line))
/-- The rule out of the words behind its kind. -/
def ruleW (name : St) (req : Bool) (kind : Int) (l : List St) : Rul :=
  if kind = 3 then
    match l with
    | [] => ⟨name, req, kind, 0, 0, 0, []⟩
    | x :: l => ⟨name, req, kind, numV (Lib.cut x [46, 46]).1, numV (Lib.cut x [46, 46]).2.1, match l with | [] => 0 | y :: _ => numV (Lib.trimPrefix y [120]), []⟩
  else if kind = 4 then ⟨name, req, kind, 0, 0, 0, l⟩
  else ⟨name, req, kind, 0, 0, match l with | [] => 0 | y :: _ => numV (Lib.trimPrefix y [120]), []⟩
def ruleL (name : St) (req : Bool) (l : List St) : Option Rul :=
  match l with
  | [] => none
  | [] :: _ => none
  | x :: l => some (ruleW name req (idxS x 0 kindsS) l)
def readRuleP (line : St) : Rul × Bool :=
  match Lib.split (Lib.trimPrefix line [9]) [32] with
  | [] => (default, false)
  | name :: l =>
    match (if l.head? = some reqS then ruleL name true l.tail else ruleL name false l) with
    | none => (default, false)
    | some r => if Lib.hasPrefix line [9] = true then (r, ruleP r && decide (9 :: Lib.join (wordsP r) [32] = line)) else (default, false)
def parseF : Nat → St → Nat → List Sch → List Sch × Int × Int
  | 0, _, _, out => (out, 0, 0)
  | f + 1, text, n, out =>
    if text = [] then (out, 0, 0) else
    if (Lib.cut text [10]).2.2 = true ∧ (readHeadP (Lib.cut text [10]).1).2 = true then
      if 0 < out.length ∧ ltS (out.getLastD default).comp (readHeadP (Lib.cut text [10]).1).1.comp = false then ([], (n : Int), 12)
      else if out.length = 24 then ([], (n : Int), 3)
      else parseF f (Lib.cut text [10]).2.1 (n + 1) (out ++ [(readHeadP (Lib.cut text [10]).1).1])
    else
      if (Lib.cut text [10]).2.2 = false ∨ (readRuleP (Lib.cut text [10]).1).2 = false ∨ out.length = 0 then ([], (n : Int), 6)
      else if 0 < (out.getLastD default).rules.length ∧ ltS ((out.getLastD default).rules.getLastD default).name (readRuleP (Lib.cut text [10]).1).1.name = false then ([], (n : Int), 12)
      else if (out.getLastD default).rules.length = 16 then ([], (n : Int), 3)
      else parseF f (Lib.cut text [10]).2.1 (n + 1) (out.dropLast ++ [⟨(out.getLastD default).comp, (out.getLastD default).closed, (out.getLastD default).rules ++ [(readRuleP (Lib.cut text [10]).1).1]⟩])
def parseP (text : St) : List Sch × Int × Int := if 16000 < text.length then ([], 0, 3) else parseF (text.length + 1) text 1 []

/-! SchemaLimits. -/
def slN (i : Nat) : St := [112, UInt8.ofNat (97 + i)]
def slText (k : Nat) : St := schemaS ++ [115, 10] ++ (List.range k).flatMap (fun i => 9 :: (slN i ++ [32, 97, 110, 121, 10]))
def slSch (k : Nat) : Sch := ⟨[115], false, (List.range k).map (fun i => ⟨slN i, false, 1, 0, 0, 0, []⟩)⟩
def slOk (k : Nat) : Bool :=
  if k ≤ 16 then decide (parseP (slText k) = ([slSch k], 0, 0)) && decide (chkSch [slSch k] = 0) else decide (parseP (slText k) = ([], 18, 3)) && decide (chkSch [slSch k] = 3)
/-- The example. -/
def exText : St := [115, 99, 104, 101, 109, 97, 32, 102, 105, 120, 101, 100, 45, 99, 108, 111, 99, 107, 32, 99, 108, 111, 115, 101, 100, 10, 9, 99, 108, 111, 99, 107, 45, 102, 114, 101, 113, 117, 101, 110, 99, 121, 32, 114, 101, 113, 117, 105, 114, 101, 100, 32, 99, 101, 108, 108, 115, 32, 49, 46, 46, 52, 48, 48, 48, 48, 48, 48, 48, 48, 48, 32, 120, 49, 10]
def exSch : Sch := ⟨[102, 105, 120, 101, 100, 45, 99, 108, 111, 99, 107], true, [⟨[99, 108, 111, 99, 107, 45, 102, 114, 101, 113, 117, 101, 110, 99, 121], true, 3, 1, 4000000000, 1, []⟩]⟩
end Go.Proofs.YtadldblpkgackaaGreatDoor

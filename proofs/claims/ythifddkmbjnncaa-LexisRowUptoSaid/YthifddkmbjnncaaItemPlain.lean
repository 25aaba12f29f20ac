/-
  The plain law of documents: no program in sight.
-/
import Derived.Test.YthifddkmbjnncaaNamePlain
import Derived.Test.YthifddkmbjnncaaKit
namespace Go.Proofs.Ythifddkmbjnncaa

structure AttrD where
  name : List UInt8
  value : List UInt8
deriving DecidableEq

structure ItemD where
  level : Int
  kind : Int
  name : List UInt8
  text : List UInt8
  attrs : List AttrD
deriving DecidableEq

/-- how many characters; -1: the text is not made of such -/
def countL (l : List UInt8) : Int := match charsL l with
  | some cs => cs.length
  | none => -1
/-- why a text may not be -/
def charsE (l : List UInt8) : Int := if countL l < 0 then 64 else if 1500 < l.length then 67 else 0

def leB (a b : List UInt8) : Bool := Op.bytesLess a b || a == b
def attrNames (last : List UInt8) : List AttrD → Bool
  | [] => true
  | a :: r => nameL a.name && !(leB a.name last) && attrNames a.name r
def namesE (x : ItemD) : Int := if nameL x.name && attrNames [] x.attrs then (if 20 < x.attrs.length then 67 else 0) else 63
def valuesE : List AttrD → Int
  | [] => 0
  | a :: r => if charsE a.value = 0 then valuesE r else charsE a.value
def partsE (x : ItemD) : Int :=
  if x.kind = 2 ∧ x.name = [] ∧ x.attrs = [] then charsE x.text
  else if x.kind ≠ 1 ∨ x.text ≠ [] then 68
  else if namesE x = 0 then valuesE x.attrs else namesE x
def placeE (prev : Option ItemD) (k : Nat) (x : ItemD) : Int := match prev with
  | none => if x.level ≠ 0 ∨ x.kind ≠ 1 then 69 else 0
  | some p => if x.level < 1 ∨ p.level + 1 < x.level ∨ (p.level < x.level ∧ p.kind = 2) then 69 else if 40 ≤ x.level then 42 else if 1000 ≤ k then 43 else 0
def oneE (prev : Option ItemD) (k : Nat) (x : ItemD) : Int := if placeE prev k x = 0 then partsE x else placeE prev k x
def checkF (prev : Option ItemD) (k : Nat) : List ItemD → Int × Int
  | [] => (0, 0)
  | x :: r => if oneE prev k x = 0 then checkF (some x) (k + 1) r else (k, oneE prev k x)
def checkL (l : List ItemD) : Int × Int := if l = [] then (0, 40) else checkF none 0 l
end Go.Proofs.Ythifddkmbjnncaa

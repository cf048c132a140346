/-
  What is a right node of each sort: plain functions over the four questions that come back: type, expression, statement, if.
-/
import Derived.Test.YtkmhijkpbmcgbaaGreatTextP
import Derived.Test.YtkmhijkpbmcgbaaGreatAllF
namespace Go.Proofs.YtkmhijkpbmcgbaaGreat
set_option linter.all false

/-- The questions that come back. -/
inductive Q where
  | typ | expr | stmt | iff
section
variable (g : Q → Nd → Bool)
def emptyB (n : Nd) : Bool := n.kind == 0 && n.text.toList == [] && (n.kids.length : Int) == 0
def listB (p : Nd → Bool) (n : Nd) : Bool := n.kind == 6 && n.text.toList == [] && n.kids.all p
def paramB (so : ByteArray → Bool) (p : Nd) : Bool := ofN (namedN p (so p.text)) 8 [g .typ]
def sigB (so : ByteArray → Bool) (n : Nd) : Bool := ofN n 12 [listB (paramB g so), fun k => emptyB k || g .typ k]
def noneB (s : ByteArray) : Bool := s.toList == []
def isSigB (n : Nd) : Bool := sigB g nameB n
def typB (n : Nd) : Bool := if n.kind = 10 then nameB n.text && n.kids.all (g .typ) else if n.kind = 11 then ofN n 11 [g .typ] else if n.kind = 12 then sigB g noneB n else false
def termB (t : Nd) : Bool := ofN (namedN t (twoB [] [126] t.text)) 15 [g .typ]
def interB (n : Nd) : Bool := n.kind == 14 && n.text.toList == [] && decide (0 < n.kids.length) && n.kids.all (termB g)
def fieldB (f : Nd) : Bool := ofN (namedN f (nameB f.text)) 9 [g .typ]
def structB (n : Nd) : Bool := n.kind == 13 && n.text.toList == [] && n.kids.all (fieldB g)
def named1B (c : Nd) : Bool := c.kind == 10 && g .typ c
def tparamB (p : Nd) : Bool := ofN (namedN p (nameB p.text)) 7 [fun c => named1B g c || interB g c]
def paramsB (n : Nd) : Bool := listB (tparamB g) n
def varB (n : Nd) : Bool := ofN (namedN n (nameB n.text)) 5 [fun k => emptyB k || g .typ k, fun k => emptyB k || g .expr k] && !((n.kids.take 2).all emptyB)
def blockB (n : Nd) : Bool := n.kind == 36 && n.text.toList == [] && n.kids.all (g .stmt)
def declB (n : Nd) : Bool := if n.kind = 2 then ofN (namedN n (nameB n.text)) 2 [paramsB g, isSigB g, blockB g]
  else if n.kind = 3 then ofN (namedN n (nameB n.text)) 3 [paramsB g, fun k => (g .typ k || structB g k) || interB g k]
  else if n.kind = 4 then ofN (namedN n (nameB n.text)) 4 [paramsB g, g .typ] else varB g n
def partB (k : Nd) : Bool := g .expr k || (!(k.kind == 10) && g .typ k)
def exprB (n : Nd) : Bool :=
  if n.kind = 16 then ofN (namedN n (plainB n.text.data.toList)) 16 []
  else if n.kind = 17 then ofN (namedN n (decide (n.text.size ≤ 1000))) 17 []
  else if n.kind = 18 then ofN (namedN n (nameB n.text)) 18 []
  else if n.kind = 19 then ofN (namedN n (twoB [45] [33] n.text)) 19 [g .expr]
  else if n.kind = 20 then ofN (namedN n (binB n.text)) 20 [g .expr, g .expr]
  else if n.kind = 21 then n.text.toList == [] && (decide (0 < n.kids.length) && n.kids.all (g .expr))
  else if n.kind = 22 then n.text.toList == [] && (decide (1 < n.kids.length) && ((n.kids.take 1).all (g .expr) && (n.kids.drop 1).all (partB g)))
  else if n.kind = 23 then ofN (namedN n (nameB n.text)) 23 [g .expr]
  else if n.kind = 24 then n.text.toList == [] && (decide (0 < n.kids.length) && ((n.kids.take 1).all (fun k => !(k.kind == 12) && g .typ k) && (n.kids.drop 1).all (g .expr)))
  else ofN n 25 [isSigB g, blockB g]
def incB (n : Nd) : Bool := ofN (namedN n (twoB [43, 43] [45, 45] n.text)) 28 [g .expr]
def setB (n : Nd) : Bool := ofN n 27 [g .expr, g .expr]
def call1B (x : Nd) : Bool := x.kind == 21 && g .expr x
def callB (n : Nd) : Bool := ofN n 29 [call1B g]
def shortB (n : Nd) : Bool := ofN (namedN n (boundB n.text)) 26 [g .expr]
def ifB (n : Nd) : Bool := ofN n 30 [g .expr, blockB g, fun k => (emptyB k || blockB g k) || g .iff k]
def stmtB (n : Nd) : Bool :=
  if n.kind = 5 then varB g n
  else if n.kind = 26 then shortB g n
  else if n.kind = 27 then setB g n
  else if n.kind = 28 then incB g n
  else if n.kind = 29 then callB g n
  else if n.kind = 30 then ifB g n
  else if n.kind = 31 then ofN n 31 [fun k => (emptyB k || shortB g k) || (setB g k || incB g k), fun k => emptyB k || g .expr k, fun k => (emptyB k || setB g k) || (incB g k || callB g k), blockB g]
  else if n.kind = 32 then ofN (namedN n (rangedB n.text)) 32 [g .expr, blockB g]
  else if n.kind = 33 then ofN n 33 [fun k => emptyB k || g .expr k]
  else if n.kind = 34 ∨ n.kind = 35 then ofN n n.kind []
  else blockB g n
def fileB (n : Nd) : Bool := n.kind == 1 && nameB n.text && n.kids.all (declB g)
def askN : Q → Nd → Bool
  | .typ => typB g
  | .expr => exprB g
  | .stmt => stmtB g
  | .iff => ifB g
end
/-- The questions, to a depth. -/
def isN : Nat → Q → Nd → Bool
  | 0 => fun _ _ => false
  | f + 1 => askN (isN f)

end Go.Proofs.YtkmhijkpbmcgbaaGreat

/-
  Trees of nodes, and what the program and the document say of them: plain functions.
-/
import GoSem.Claim
namespace Go.Proofs.YtkmhijkpbmcgbaaGreat
set_option linter.all false

/-- A node. -/
inductive Nd where
  | mk (kind : Int) (text : ByteArray) (kids : List Nd) (place : Int)
def Nd.kind : Nd → Int | .mk k _ _ _ => k
def Nd.text : Nd → ByteArray | .mk _ t _ _ => t
def Nd.kids : Nd → List Nd | .mk _ _ l _ => l
def Nd.place : Nd → Int | .mk _ _ _ a => a

/-- How many nodes there are, to a depth. -/
def sizeN : Nat → Nd → Nat
  | 0, _ => 0
  | f + 1, n => 1 + (n.kids.map (sizeN f)).sum
/-- How many are within one another, to a depth. -/
def depthN : Nat → Nd → Nat
  | 0, _ => 0
  | f + 1, n => (n.kids.map (depthN f)).foldl max 0 + 1
/-- Are two the same, to a depth? -/
def sameN : Nat → Nd → Nd → Bool
  | 0, _, _ => false
  | f + 1, a, b => a.kind == b.kind && a.text.toList == b.text.toList && a.kids.length == b.kids.length && (a.kids.zip b.kids).all fun p => sameN f p.1 p.2
/-- All in a node, to a depth, each with how much depth is left. -/
def allN : Nat → Nd → List (Nd × Nat)
  | 0, _ => []
  | f + 1, n => (n, f + 1) :: n.kids.flatMap (allN f)

end Go.Proofs.YtkmhijkpbmcgbaaGreat

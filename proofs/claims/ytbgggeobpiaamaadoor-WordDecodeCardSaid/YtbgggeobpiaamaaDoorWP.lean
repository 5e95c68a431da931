/- Plain: encoded words. -/
import Derived.Test.YtbgggeobpiaamaaDoorQP
namespace Go.Proofs.YtbgggeobpiaamaaDoor
set_option linter.unusedVariables false

def pre8 : List Nat := [61, 63, 117, 116, 102, 45, 56, 63]
/-- The data of a text. -/
def dataW (q : Bool) (l : List Nat) : List Nat := if q = true then wQ l else encF l
def letter (q : Bool) : Nat := if q = true then 81 else 66
/-- The encoded word of a text, however long. -/
def wordF (q : Bool) (l : List Nat) : List Nat := pre8 ++ [letter q] ++ [63] ++ dataW q l ++ [63, 61]

def isQ (enc : Int) : Bool := decide (enc = 1)
def wordR (enc : Int) (l : List Nat) : List Nat × Nat :=
  if enc ≠ 0 ∧ enc ≠ 1 then ([], 2) else if l = [] then ([], 1) else if prt l = false then ([], 6)
  else if 75 < (wordF (isQ enc) l).length then ([], 5) else (wordF (isQ enc) l, 0)
end Go.Proofs.YtbgggeobpiaamaaDoor

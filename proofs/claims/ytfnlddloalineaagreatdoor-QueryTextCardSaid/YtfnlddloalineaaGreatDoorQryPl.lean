/-
  Queries: plain data, the words of a query, what Parse returns.
-/
import Derived.Test.YtfnlddloalineaaGreatDoorDatPl
namespace Go.Proofs.YtfnlddloalineaaGreatDoor
set_option linter.unusedVariables false
structure SCond where
  f : Int
  o : Int
  v : Int
deriving DecidableEq
instance : Inhabited SCond := ⟨⟨0, 0, 0⟩⟩
structure SQry where
  verb : Int
  by_ : List Int
  wh : List SCond
instance : Inhabited SQry := ⟨⟨0, [], []⟩⟩
/-- the place of a word in a list, as a number; -1: nowhere -/
def idxW (l : List (List UInt8)) (s : List UInt8) : Int := match l.findIdx? (· == s) with
  | some k => (k : Int)
  | none => -1
end Go.Proofs.YtfnlddloalineaaGreatDoor

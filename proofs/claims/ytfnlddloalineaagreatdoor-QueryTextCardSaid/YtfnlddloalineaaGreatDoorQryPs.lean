/-
  Queries: what a list of words is read as (plain).
-/
import Derived.Test.YtfnlddloalineaaGreatDoorQryW10
namespace Go.Proofs.YtfnlddloalineaaGreatDoor
set_option linter.unusedVariables false
abbrev Wd := List UInt8
def byW : Wd := [98, 121]
def whereW : Wd := [119, 104, 101, 114, 101]
def andW : Wd := [97, 110, 100]
/-- a condition: it and the words that are left; or the words that are left and the error -/
def cndR : List Wd → Except (List Wd × Int) (SCond × List Wd)
  | [] => .error ([], 3)
  | x :: ws => if idxW fdL x < 0 then .error (x :: ws, 17) else match ws with
    | [] => .error ([], 3)
    | o :: vs => if idxW (opL.take (opN (idxW fdL x))) o < 0 then .error (o :: vs, 3) else match vs with
      | [] => .error ([], 3)
      | v :: r => if (valO (idxW fdL x) v).2 = 0 then .ok (⟨idxW fdL x, idxW (opL.take (opN (idxW fdL x))) o, (valO (idxW fdL x) v).1⟩, r) else .error (v :: r, (valO (idxW fdL x) v).2)
/-- the conditions, n of them at most -/
def whR : Nat → List SCond → List Wd → Except (List Wd × Int) (List SCond)
  | 0, _, ws => if ws = [] then .error ([], 3) else .error (ws, 6)
  | n + 1, acc, ws => match cndR ws with
    | .error p => .error p
    | .ok (c, r) => match r with
      | [] => .ok (acc ++ [c])
      | y :: r' => if y = andW then whR n (acc ++ [c]) r' else .error (y :: r', 3)
def dupB (l : List Int) : Bool := (List.range l.length).any fun i => (l.take i).contains (l.getD i 0)
/-- a list of fields -/
def byN (w : Wd) : List Int := (piecesL 44 w).map (idxW fdL)
def byR (w : Wd) : Except Int (List Int) := if (byN w).any (fun x => decide (x < 0)) = true then .error 17 else if dupB (byN w) = true then .error 9 else .ok (byN w)
def tailR (verb : Int) (by_ : List Int) : List Wd → Except (List Wd × Int) SQry
  | [] => .ok ⟨verb, by_, []⟩
  | x :: r => if x = whereW then (match whR 20 [] r with | .error p => .error p | .ok cs => .ok ⟨verb, by_, cs⟩) else .error (x :: r, 3)
def qryR : List Wd → Except (List Wd × Int) SQry
  | [] => .error ([], 3)
  | v :: ws => if idxW vbL v < 0 then .error (v :: ws, 3) else match ws with
    | [] => .ok ⟨idxW vbL v, [], []⟩
    | b :: ws1 => if b = byW then (match ws1 with
        | [] => .error ([], 3)
        | f :: ws2 => match byR f with
          | .error e => .error (f :: ws2, e)
          | .ok l => tailR (idxW vbL v) l ws2) else tailR (idxW vbL v) [] (b :: ws1)
/-- the place at which reading has stopped -/
def plcR (ws r : List Wd) (len : Nat) : Nat := if r = [] then len else plS ws (ws.length - r.length)
end Go.Proofs.YtfnlddloalineaaGreatDoor

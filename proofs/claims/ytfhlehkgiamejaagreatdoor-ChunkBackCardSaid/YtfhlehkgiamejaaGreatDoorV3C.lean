/- lex, plain: what is quoted; lists. -/
import Derived.Test.YtfhlehkgiamejaaGreatDoorV3A
namespace Go.Proofs.YtfhlehkgiamejaaGreatDoor
open Go.Av
set_option linter.unusedVariables false
set_option linter.unusedSimpArgs false
end Go.Proofs.YtfhlehkgiamejaaGreatDoor
namespace Go.Proofs.YtfhlehkgiamejaaGreatDoor
open Go.Av
set_option linter.unusedVariables false
set_option linter.unusedSimpArgs false
set_option maxRecDepth 100000
/-- a piece, if anything of it stays -/
def addT (c : List UInt8) (l : List (List UInt8)) : List (List UInt8) := if trimT c = [] then l else trimT c :: l
/-- the pieces of a rest, with the piece so far; 0: plain, 1: quoted, 2: behind a backslash -/
def lsT : Nat → List UInt8 → List UInt8 → Option (List (List UInt8))
  | m, cur, [] => if m = 0 then some (addT cur []) else none
  | m, cur, c :: r =>
    if m = 0 then
      if c = 34 then lsT 1 (cur ++ [c]) r else if c = 44 then (lsT 0 [] r).map (addT cur) else lsT 0 (cur ++ [c]) r
    else if m = 1 then
      if c = 34 then lsT 0 (cur ++ [c]) r else if c = 92 then lsT 2 (cur ++ [c]) r else if quoT c then lsT 1 (cur ++ [c]) r else none
    else if quoT c then lsT 1 (cur ++ [c]) r else none
def lsR (acc : List (List UInt8)) : Option (List (List UInt8)) → List (List UInt8) × Int
  | none => ([], 5)
  | some l => (acc ++ l, 0)
def listT (s : List UInt8) : List (List UInt8) × Int := lsR [] (lsT 0 [] s)
end Go.Proofs.YtfhlehkgiamejaaGreatDoor

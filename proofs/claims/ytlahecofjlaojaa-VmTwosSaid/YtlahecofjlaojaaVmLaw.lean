/- Plain law of the machine: what one step, a run, makes. -/
import Derived.Test.YtlahecofjlaojaaVmOwn
import Derived.Laws.BitsAllLaws
namespace Go.Proofs.Ytlahecofjlaojaa
set_option linter.unusedVariables false
open Go.RowKit

/-- Does it fit into 64 bits with a sign? -/
def in64 (x : Int) : Bool := decide (-9223372036854775808 ≤ x) && decide (x ≤ 9223372036854775807)
def shlV (a b : Int) : Int := wrap64 (a * 2 ^ min b.toNat 64)
def shrV (a b : Int) : Int := a / 2 ^ min b.toNat 64
/-- What a sign makes of two numbers: the error, the number. -/
def twoV (op : Nat) (a b : Int) : Nat × Int :=
  if op = 2 then (if in64 (a + b) then (0, a + b) else (11, 0))
  else if op = 3 then (if in64 (a - b) then (0, a - b) else (11, 0))
  else if op = 4 then (if in64 (a * b) then (0, a * b) else (11, 0))
  else if op = 5 then (if b < 0 then (1, 0) else (0, shlV a b))
  else if op = 6 then (if b < 0 then (1, 0) else (0, shrV a b))
  else (0, bits .and .i64 a b)
def i32V (a : Int) : Int := wrap64 (wrap32 a)
def u8V (a : Int) : Int := a % 256
/-- What a sign makes of one number. -/
def oneV (op : Nat) (a : Int) : List Int := if op = 8 then [a, a] else if op = 14 then [i32V a] else if op = 15 then [u8V a] else []
/-- Eight bytes as a number. -/
def num8 (bs : List Nat) : Int := wrap64 ((bs.foldl (fun u x => u * 256 + x) 0 : Nat) : Int)
/-- How a sign goes upon a machine that stands behind it: an error, or the machine then. -/
def push_ (m : Ms) (l : List Int) : Int × Ms := if 16 < m.stack.length + l.length then (15, m) else (0, { m with stack := m.stack ++ l })
def doV (m : Ms) (op : Nat) : Int × Ms :=
  let n := m.stack.length
  if op = 1 then
    if m.code.length < m.at_ + 8 then (8, m)
    else push_ { m with at_ := m.at_ + 8 } [num8 ((m.code.drop m.at_).take 8)]
  else if 2 ≤ op ∧ op ≤ 7 then
    if n < 2 ∨ 16 < n - 1 then (15, m)
    else
      let r := twoV op (m.stack.getD (n - 2) 0) (m.stack.getD (n - 1) 0)
      if r.1 ≠ 0 then (r.1, m) else (0, { m with stack := m.stack.take (n - 2) ++ [r.2] })
  else if op = 9 then
    if n < 2 ∨ 16 < n then (15, m)
    else (0, { m with stack := m.stack.take (n - 2) ++ [m.stack.getD (n - 1) 0, m.stack.getD (n - 2) 0] })
  else if op = 8 ∨ op = 10 ∨ op = 14 ∨ op = 15 then
    if n < 1 then (15, m) else push_ { m with stack := m.stack.take (n - 1) } (oneV op (m.stack.getD (n - 1) 0))
  else if op = 11 then push_ m [m.arg]
  else if op = 12 then push_ m [m.data]
  else if op = 13 then
    if m.code.length ≤ m.at_ then (8, m)
    else if n < 1 ∨ 16 < n - 1 then (15, m)
    else if m.stack.getD (n - 1) 0 = 0 then
      if m.code.length < m.code.getD m.at_ 0 then (10, m)
      else (0, { m with at_ := m.code.getD m.at_ 0, stack := m.stack.take (n - 1) })
    else (0, { m with at_ := m.at_ + 1, stack := m.stack.take (n - 1) })
  else (10, m)
def overV (m : Ms) (e : Int) : Ms := { m with done := true, err := e }
def stepV (m : Ms) : Ms :=
  if m.done then m
  else if m.gas < 1 then overV m 14
  else
    let m1 := { m with gas := m.gas - 1 }
    if m.code.length < m.at_ then overV m1 10
    else if m.at_ = m.code.length ∨ m.code.getD m.at_ 0 = 0 then overV m1 0
    else
      let r := doV { m1 with at_ := m.at_ + 1 } (m.code.getD m.at_ 0)
      if r.1 ≠ 0 then overV m1 r.1 else r.2
def runV : Nat → Ms → Ms
  | 0, m => m
  | k + 1, m => if m.done then m else runV k (stepV m)
end Go.Proofs.Ytlahecofjlaojaa

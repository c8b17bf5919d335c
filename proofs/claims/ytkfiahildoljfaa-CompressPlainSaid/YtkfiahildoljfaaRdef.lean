/- The reference's part in the single mode, as a function; plain. -/
import Derived.Test.YtkfiahildoljfaaRst4
namespace Go.Proofs.Ytkfiahildoljfaa.Rst
open Go.RowKit Go.Proofs.Ytkfiahildoljfaa.Win Go.Proofs.Ytkfiahildoljfaa.Stp Go.Proofs.Ytkfiahildoljfaa.Mach
def rpush (t : R) (y : Int) : R := { t with out := t.out ++ [y] }
def rpartS (t : R) (l : List Int) (k : Nat) : R × Nat :=
  if l.getD k 0 = 14 then runit t l (k + 1)
  else if 0 < t.high ∨ l.getD k 0 = 12 then rwrong t k
  else if 1 ≤ l.getD k 0 ∧ l.getD k 0 ≤ 8 then
    if l.length ≤ k + 1 then rcut t l.length
    else if l.getD (k + 1) 0 < 128 then (rpush t ((wStatic (l.getD k 0 - 1)).1 + l.getD (k + 1) 0), k + 2)
    else (rpush t (wAt t.o (l.getD k 0 - 1) + l.getD (k + 1) 0 - 128), k + 2)
  else if l.getD k 0 = 11 then rlay t l (k + 1) (-1)
  else if 24 ≤ l.getD k 0 ∧ l.getD k 0 ≤ 31 then rlay t l (k + 1) (l.getD k 0 - 24)
  else if 16 ≤ l.getD k 0 ∧ l.getD k 0 ≤ 23 then ({ t with act := l.getD k 0 - 16 }, k + 1)
  else if l.getD k 0 = 15 then ({ t with uni := true }, k + 1)
  else if 128 ≤ l.getD k 0 then (rpush t (wAt t.o t.act + l.getD k 0 - 128), k + 1)
  else (rpush t (l.getD k 0), k + 1)
def rpart (t : R) (l : List Int) (k : Nat) : R × Nat := if t.uni = true then rpartU t l k else rpartS t l k
end Go.Proofs.Ytkfiahildoljfaa.Rst

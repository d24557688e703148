import Derived.Test.YthijempdiheabaaDoorProg
import Derived.Test.YthijempdiheabaaDoorAb14
import Derived.Lib.ItoaLen
set_option autoImplicit false
namespace Go.Proofs
open Go Go.Ab
set_option maxHeartbeats 1000000
set_option maxRecDepth 100000
theorem follows : Tryd.prog.follows .mixedOrders = true := by kernel_rfl
@[match_pattern] abbrev fr (n d : Int) : DV := .agg [di n, di d]
def ok (n d : Int) : Bool := decide (1 ≤ d ∧ d ≤ 1000000 ∧ -1000000000 ≤ n ∧ n ≤ 1000000000 ∧ Int.gcd n d = 1)
/-- A numerator, a denominator and an error. -/
abbrev FE := Int × Int × Int
def fe (x : FE) : DV := .tup [fr x.1 x.2.1, di x.2.2]
def red1 (n d : Int) : FE := if ok (n.tdiv (Int.gcd n d)) (d.tdiv (Int.gcd n d)) then (n.tdiv (Int.gcd n d), d.tdiv (Int.gcd n d), 0) else (0, 0, 2)
def red (n d : Int) : FE := if d < 0 then red1 (-n) (-d) else red1 n d
def big (n : Int) : Bool := decide (-1000000000000000 ≤ n ∧ n ≤ 1000000000000000)
def mk (n d : Int) : FE := if d = 0 then (0, 0, 1) else if big n = true ∧ big d = true then red n d else (0, 0, 2)
abbrev str (l : List UInt8) : ByteArray := ⟨l.toArray⟩
def sg (n : Int) : List UInt8 := if n < 0 then [45] else []
def fmt (n d : Int) : List UInt8 := if ok n d then (if d = 1 then Lib.itoa n else Lib.itoa n ++ 47 :: Lib.itoa d) else []
def pt (n p : Int) : List UInt8 := sg n ++ (Lib.itoa ((n.natAbs : Int).tdiv p) ++ 46 :: (Lib.itoa (p + (n.natAbs : Int).tmod p)).drop 1)
def decA (n d : Int) : Nat → Int → List UInt8 × Bool
  | 0, _ => ([], false)
  | k + 1, p => if p.tmod d = 0 then (if p = 1 then (Lib.itoa n, true) else (pt (n * p.tdiv d) p, true)) else decA n d k (10 * p)
def decF (n d : Int) : List UInt8 × Bool := if ok n d then decA n d 7 1 else ([], false)
def tailB (d : Nat) : Nat → Nat → List UInt8
  | 0, _ => []
  | k + 1, r => if r = 0 then [] else Lib.decDigits (10 * r / d) ++ tailB d k (10 * r % d)
def decB (n d : Int) : List UInt8 × Bool :=
  if ok n d = true ∧ (1000000 : Int).tmod d = 0 then
    (sg n ++ (Lib.decDigits (n.natAbs / d.toNat) ++ (if n.natAbs % d.toNat = 0 then [] else 46 :: tailB d.toNat 7 (n.natAbs % d.toNat))), true)
  else ([], false)
def sb (x : List UInt8 × Bool) : DV := .tup [ds (str x.1), db x.2]
def pts (n : Int) : List UInt8 := if -100000000 ≤ n ∧ n ≤ 100000000 then pt n 100 else []
def hun (n d : Int) : Int := (200 * n + d) / (2 * d)
def orc : Oracle
  | 49, [di n] => some (di (n.natAbs : Int))
  | 48, [di a, di b] => some (di (Int.gcd a b))
  | 50, [di a, di b] => some (di (Int.gcd a b))
  | 15, [fr a b] => some (db (ok a b))
  | 16, [fr a b] => some (db (ok a b))
  | 41, [di a] => some (db (big a))
  | 42, [di a, di b] => some (fe (red a b))
  | 43, [di a, di b] => some (fe (red a b))
  | 11, [di a, di b] => some (fe (mk a b))
  | 12, [di a, di b] => some (fe (mk a b))
  | 44, [di a] => some (ds (str (Lib.itoa a)))
  | 46, [di n] => some (.tup [ds (str (sg n)), di (n.natAbs : Int)])
  | 47, [di n] => some (ds (str (Lib.decDigits n.toNat)))
  | 45, [di n, di p] => some (ds (str (pt n p)))
  | 17, [fr n d] => some (ds (str (fmt n d)))
  | 18, [fr n d] => some (ds (str (fmt n d)))
  | 13, [fr n d] => some (sb (decF n d))
  | 14, [fr n d] => some (sb (decF n d))
  | 19, [di n] => some (ds (str (pts n)))
  | 20, [di n] => some (ds (str (pts n)))
  | 56, [di a, di b] => some (di (a / b))
  | 60, [di a, di b] => some (di (a / b))
  | 25, [fr n d] => some (.tup [di (if ok n d then hun n d else 0), db (ok n d)])
  | 35, [fr n d] => some (.tup [di (if ok n d then hun n d else 0), db (ok n d)])
  | 26, [fr n d] => some (.tup [di (if ok n d then n / d else 0), db (ok n d)])
  | 36, [fr n d] => some (.tup [di (if ok n d then n / d else 0), db (ok n d)])
  | 10, [] => some (db true)
  | _, _ => none
end Go.Proofs

import Derived.Test.YthijempdiheabaaDoorAb15
import Derived.Test.YthijempdiheabaaDoorFb
import Derived.Test.YthijempdiheabaaDoorF7
import Derived.Test.YthijempdiheabaaDoorL2
import Derived.Test.YthijempdiheabaaDoorF6
set_option autoImplicit false
namespace Go.Proofs
open Go Go.Ab
set_option maxHeartbeats 1000000
set_option maxRecDepth 100000
variable {G : IH}
def hunF (n d : Int) : Int := if ok n d then hun n d else 0
def flF (n d : Int) : Int := if ok n d then n / d else 0
abbrev fe' (x : FE) : DV := .tup [fr x.1 x.2.1, di x.2.2]
def orc3 : Oracle
  | 66, [di _] => some (db false)
  | 57, [di x, di y] => some (di (cmpI x y))
  | 27, [fr a b, fr c d] => some (.tup [di (cmpF a b c d), db (ok2 a b c d)])
  | 34, [fr a b, fr c d] => some (.tup [di (cmpF a b c d), db (ok2 a b c d)])
  | 21, [fr a b, fr c d] => some (fe (addF a b c d))
  | 22, [fr a b, fr c d] => some (fe (mulF a b c d))
  | 23, [fr a b, fr c d] => some (fe (subF a b c d))
  | 24, [fr a b, fr c d] => some (fe (divF a b c d))
  | 25, [fr n d] => some (.tup [di (hunF n d), db (ok n d)])
  | 26, [fr n d] => some (.tup [di (flF n d), db (ok n d)])
  | f, l => orc f l
theorem f21' (a b c d : Int) : FnOK Tryd.prog G 21 [fr a b, fr c d] (fe' (addF a b c d)) := f21 a b c d
theorem f22' (a b c d : Int) : FnOK Tryd.prog G 22 [fr a b, fr c d] (fe' (mulF a b c d)) := f22 a b c d
theorem f23' (a b c d : Int) : FnOK Tryd.prog G 23 [fr a b, fr c d] (fe' (subF a b c d)) := f23 a b c d
theorem f24' (a b c d : Int) : FnOK Tryd.prog G 24 [fr a b, fr c d] (fe' (divF a b c d)) := f24 a b c d
theorem f25' (n d : Int) : FnOK Tryd.prog G 25 [fr n d] (.tup [di (hunF n d), db (ok n d)]) := f25 n d
theorem f26' (n d : Int) : FnOK Tryd.prog G 26 [fr n d] (.tup [di (flF n d), db (ok n d)]) := f26 n d
theorem f66 (x : Int) : FnOK Tryd.prog G 66 [di x] (db false) := by
  refine FnOK.walk (orc := orc3) (keep := []) follows Tryd.func66 rfl Tryd.call66 ?_
  refine of_eqH (b :=
    (((.con (.bool (x != x))) : DV) = (db false))) (by kernel_rfl) ?_
  simp
theorem f57 (x y : Int) : FnOK Tryd.prog G 57 [di x, di y] (di (cmpI x y)) := by
  refine FnOK.walk (orc := orc3) (keep := []) follows Tryd.func57 rfl Tryd.call57 ?_
  refine of_eqH (b :=
    (FnOK Tryd.prog G ((66 : Nat)) [(.con (.int .i64 x))] (.con (.bool false)) ∧
    (FnOK Tryd.prog G ((66 : Nat)) [(.con (.int .i64 y))] (.con (.bool false)) ∧
    (((false = true) →
    (((false = true) →
    (((.con (.int .i64 ((0 : Int)))) : DV) = (di (cmpI x y)))) ∧
    ((false = false) →
    (((.con (.int .i64 ((-1 : Int)))) : DV) = (di (cmpI x y)))))) ∧
    ((false = false) →
    (((false = true) →
    (((.con (.int .i64 ((1 : Int)))) : DV) = (di (cmpI x y)))) ∧
    ((false = false) →
    ((((decide (x < y)) = true) →
    (((.con (.int .i64 ((-1 : Int)))) : DV) = (di (cmpI x y)))) ∧
    (((decide (x < y)) = false) →
    ((((decide (x > y)) = true) →
    (((.con (.int .i64 ((1 : Int)))) : DV) = (di (cmpI x y)))) ∧
    (((decide (x > y)) = false) →
    (((.con (.int .i64 ((0 : Int)))) : DV) = (di (cmpI x y)))))))))))))) (by kernel_rfl) ?_
  simp only [f66, cmpI]
  grind
theorem f27 (a b c d : Int) : FnOK Tryd.prog G 27 [fr a b, fr c d] (.tup [di (cmpF a b c d), db (ok2 a b c d)]) := by
  refine FnOK.walk (orc := orc3) (keep := []) follows Tryd.func27 rfl Tryd.call27 ?_
  refine of_eqH (b :=
    ((FnOK Tryd.prog G ((15 : Nat)) [(.agg [(.con (.int .i64 a)), (.con (.int .i64 b))])] (.con (.bool (ok a b))) ∧
    (((!!ok a b) = true) →
    FnOK Tryd.prog G ((15 : Nat)) [(.agg [(.con (.int .i64 c)), (.con (.int .i64 d))])] (.con (.bool (ok c d))))) ∧
    ((((!ok a b || !ok c d) = true) →
    (((.tup [(.con (.int .i64 ((0 : Int)))), (.con (.bool false))]) : DV) = (.tup [(di (cmpF a b c d)), (db (ok2 a b c d))]))) ∧
    (((!ok a b || !ok c d) = false) →
    (((I64 (a * d)) ∧
    ((I64 (c * b)) ∧
    FnOK Tryd.prog G ((57 : Nat)) [(.con (.int .i64 (a * d))), (.con (.int .i64 (c * b)))] (.con (.int .i64 (cmpI (a * d) (c * b)))))) ∧
    (((.tup [(.con (.int .i64 (cmpI (a * d) (c * b)))), (.con (.bool true))]) : DV) = (.tup [(di (cmpF a b c d)), (db (ok2 a b c d))]))))))) (by kernel_rfl) ?_
  simp only [f15, f57, cmpF, ok2]
  cases h1 : ok a b with
  | false => simp
  | true => cases h2 : ok c d with
    | false => simp
    | true =>
      have m0 := mb _ _ (okb h1).1 (okb h2).2
      have m1 := mb _ _ (okb h2).1 (okb h1).2
      simp [I64]; omega
theorem f34 (a b c d : Int) : FnOK Tryd.prog G 34 [fr a b, fr c d] (.tup [di (cmpF a b c d), db (ok2 a b c d)]) := by
  refine FnOK.walk (orc := orc3) (keep := []) follows Tryd.func34 rfl Tryd.call34 ?_
  refine of_eqH (b :=
    ((FnOK Tryd.prog G ((16 : Nat)) [(.agg [(.con (.int .i64 a)), (.con (.int .i64 b))])] (.con (.bool (ok a b))) ∧
    (((!!ok a b) = true) →
    FnOK Tryd.prog G ((16 : Nat)) [(.agg [(.con (.int .i64 c)), (.con (.int .i64 d))])] (.con (.bool (ok c d))))) ∧
    ((((!ok a b || !ok c d) = true) →
    (((.tup [(.con (.int .i64 ((0 : Int)))), (.con (.bool false))]) : DV) = (.tup [(di (cmpF a b c d)), (db (ok2 a b c d))]))) ∧
    (((!ok a b || !ok c d) = false) →
    (((I64 (a * d)) ∧
    (I64 (c * b))) ∧
    ((((decide (a * d < c * b)) = true) →
    (((.tup [(.con (.int .i64 ((-1 : Int)))), (.con (.bool true))]) : DV) = (.tup [(di (cmpF a b c d)), (db (ok2 a b c d))]))) ∧
    (((decide (a * d < c * b)) = false) →
    ((((decide (a * d > c * b)) = true) →
    (((.tup [(.con (.int .i64 ((1 : Int)))), (.con (.bool true))]) : DV) = (.tup [(di (cmpF a b c d)), (db (ok2 a b c d))]))) ∧
    (((decide (a * d > c * b)) = false) →
    (((.tup [(.con (.int .i64 ((0 : Int)))), (.con (.bool true))]) : DV) = (.tup [(di (cmpF a b c d)), (db (ok2 a b c d))]))))))))))) (by kernel_rfl) ?_
  simp only [f16, cmpF, ok2]
  cases h1 : ok a b with
  | false => simp
  | true => cases h2 : ok c d with
    | false => simp
    | true =>
      have m0 := mb _ _ (okb h1).1 (okb h2).2
      have m1 := mb _ _ (okb h2).1 (okb h1).2
      simp [I64, cmpI]; grind
end Go.Proofs

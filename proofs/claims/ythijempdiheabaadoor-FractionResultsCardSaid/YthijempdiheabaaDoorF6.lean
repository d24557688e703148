import Derived.Test.YthijempdiheabaaDoorAb15
import Derived.Test.YthijempdiheabaaDoorFb
import Derived.Test.YthijempdiheabaaDoorF5
set_option autoImplicit false
namespace Go.Proofs
open Go Go.Ab
set_option maxHeartbeats 1000000
set_option maxRecDepth 100000
variable {G : IH}
theorem f14' (n d : Int) : FnOK Tryd.prog G 14 [fr n d] (sb (decF n d)) := by rw [decF_eq]; exact f14 n d
theorem res_eq {f : FuncId} {args : List DV} {r r' : DV} (h : FnOK Tryd.prog G f args r) (e : r = r') : FnOK Tryd.prog G f args r' := e ▸ h
theorem f10 (hT : Tab G) : FnOK Tryd.prog G 10 [] (db true) := by
  refine FnOK.walk (orc := orc) (keep := []) follows Tryd.func10 rfl Tryd.call10 ?_
  refine of_eqH (b :=
    (FnOK Tryd.prog G ((11 : Nat)) [(.con (.int .i64 ((6 : Int)))), (.con (.int .i64 ((-4 : Int))))] (.tup [(.agg [(.con (.int .i64 ((-3 : Int)))), (.con (.int .i64 ((2 : Int))))]), (.con (.int .i64 ((0 : Int))))]) ∧
    (FnOK Tryd.prog G ((13 : Nat)) [(.agg [(.con (.int .i64 ((-3 : Int)))), (.con (.int .i64 ((2 : Int))))])] (.tup [(.con (.string (str (pt (Int.tdiv (-6 : Int) (↑(Int.gcd (-6 : Int) (-(-4 : Int))) : Int) * Int.tdiv ((10 : Int) * (1 : Int)) (Int.tdiv (-(-4 : Int)) (↑(Int.gcd (-6 : Int) (-(-4 : Int))) : Int))) ((10 : Int) * (1 : Int)))))), (.con (.bool true))]) ∧
    (FnOK Tryd.prog G ((25 : Nat)) [(.agg [(.con (.int .i64 ((1 : Int)))), (.con (.int .i64 ((8 : Int))))])] (.tup [(.con (.int .i64 ((13 : Int)))), (.con (.bool true))]) ∧
    (FnOK Tryd.prog G ((25 : Nat)) [(.agg [(.con (.int .i64 ((-1 : Int)))), (.con (.int .i64 ((8 : Int))))])] (.tup [(.con (.int .i64 ((-12 : Int)))), (.con (.bool true))]) ∧
    ((((true = true) →
    FnOK Tryd.prog G ((17 : Nat)) [(.agg [(.con (.int .i64 ((-3 : Int)))), (.con (.int .i64 ((2 : Int))))])] (.con (.string (str (fmt (Int.tdiv (-6 : Int) (↑(Int.gcd (-6 : Int) (-(-4 : Int))) : Int)) (Int.tdiv (-(-4 : Int)) (↑(Int.gcd (-6 : Int) (-(-4 : Int))) : Int))))))) ∧
    ((true = true) →
    FnOK Tryd.prog G ((19 : Nat)) [(.con (.int .i64 ((-5 : Int))))] (.con (.string (str (pts (-5 : Int))))))) ∧
    (((.con (.bool true)) : DV) = (db true)))))))) (by kernel_rfl) ?_
  exact ⟨res_eq (f11 6 (-4)) (by kernel_rfl), res_eq (f13 hT (-3) 2) (by kernel_rfl), res_eq (f25 1 8) (by kernel_rfl), res_eq (f25 (-1) 8) (by kernel_rfl), ⟨fun _ => res_eq (f17 hT (-3) 2) (by kernel_rfl), fun _ => f19 hT (-5)⟩, rfl⟩
theorem f3 (hT : Tab G) (n d a b : Int) : FnOK Tryd.prog G 3 [fr n d, di a, di b] (db true) := by
  refine FnOK.walk (orc := orc) (keep := []) follows Tryd.func3 rfl Tryd.call3 ?_
  refine of_eqH (b :=
    (FnOK Tryd.prog G ((10 : Nat)) [] (.con (.bool true)) ∧
    (((false = true) →
    (((.con (.bool false)) : DV) = (db true))) ∧
    ((false = false) →
    (FnOK Tryd.prog G ((11 : Nat)) [(.con (.int .i64 a)), (.con (.int .i64 b))] (.tup [(.agg [(.con (.int .i64 (Prod.fst (mk a b)))), (.con (.int .i64 (Prod.fst (Prod.snd (mk a b)))))]), (.con (.int .i64 (Prod.snd (Prod.snd (mk a b)))))]) ∧
    (FnOK Tryd.prog G ((12 : Nat)) [(.con (.int .i64 a)), (.con (.int .i64 b))] (.tup [(.agg [(.con (.int .i64 (Prod.fst (mk a b)))), (.con (.int .i64 (Prod.fst (Prod.snd (mk a b)))))]), (.con (.int .i64 (Prod.snd (Prod.snd (mk a b)))))]) ∧
    (FnOK Tryd.prog G ((13 : Nat)) [(.agg [(.con (.int .i64 n)), (.con (.int .i64 d))])] (.tup [(.con (.string (str (Prod.fst (decF n d))))), (.con (.bool (Prod.snd (decF n d))))]) ∧
    (FnOK Tryd.prog G ((14 : Nat)) [(.agg [(.con (.int .i64 n)), (.con (.int .i64 d))])] (.tup [(.con (.string (str (Prod.fst (decF n d))))), (.con (.bool (Prod.snd (decF n d))))]) ∧
    ((FnOK Tryd.prog G ((15 : Nat)) [(.agg [(.con (.int .i64 n)), (.con (.int .i64 d))])] (.con (.bool (ok n d))) ∧
    (FnOK Tryd.prog G ((16 : Nat)) [(.agg [(.con (.int .i64 n)), (.con (.int .i64 d))])] (.con (.bool (ok n d))) ∧
    ((((ok n d == ok n d && Bool.rec false (Prod.fst (Prod.snd (mk a b)) == Prod.fst (Prod.snd (mk a b))) (Prod.fst (mk a b) == Prod.fst (mk a b)) && Prod.snd (Prod.snd (mk a b)) == Prod.snd (Prod.snd (mk a b))) = true) →
    FnOK Tryd.prog G ((17 : Nat)) [(.agg [(.con (.int .i64 n)), (.con (.int .i64 d))])] (.con (.string (str (fmt n d))))) ∧
    ((((ok n d == ok n d && Bool.rec false (Prod.fst (Prod.snd (mk a b)) == Prod.fst (Prod.snd (mk a b))) (Prod.fst (mk a b) == Prod.fst (mk a b)) && Prod.snd (Prod.snd (mk a b)) == Prod.snd (Prod.snd (mk a b))) = true) →
    FnOK Tryd.prog G ((18 : Nat)) [(.agg [(.con (.int .i64 n)), (.con (.int .i64 d))])] (.con (.string (str (fmt n d))))) ∧
    ((((ok n d == ok n d && Bool.rec false (Prod.fst (Prod.snd (mk a b)) == Prod.fst (Prod.snd (mk a b))) (Prod.fst (mk a b) == Prod.fst (mk a b)) && Prod.snd (Prod.snd (mk a b)) == Prod.snd (Prod.snd (mk a b)) && ByteArray.toList (str (fmt n d)) == ByteArray.toList (str (fmt n d)) && ByteArray.toList (str (Prod.fst (decF n d))) == ByteArray.toList (str (Prod.fst (decF n d))) && Prod.snd (decF n d) == Prod.snd (decF n d)) = true) →
    FnOK Tryd.prog G ((19 : Nat)) [(.con (.int .i64 a))] (.con (.string (str (pts a))))) ∧
    (((ok n d == ok n d && Bool.rec false (Prod.fst (Prod.snd (mk a b)) == Prod.fst (Prod.snd (mk a b))) (Prod.fst (mk a b) == Prod.fst (mk a b)) && Prod.snd (Prod.snd (mk a b)) == Prod.snd (Prod.snd (mk a b)) && ByteArray.toList (str (fmt n d)) == ByteArray.toList (str (fmt n d)) && ByteArray.toList (str (Prod.fst (decF n d))) == ByteArray.toList (str (Prod.fst (decF n d))) && Prod.snd (decF n d) == Prod.snd (decF n d)) = true) →
    FnOK Tryd.prog G ((20 : Nat)) [(.con (.int .i64 a))] (.con (.string (str (pts a)))))))))) ∧
    (((.con (.bool (ok n d == ok n d && Bool.rec false (Prod.fst (Prod.snd (mk a b)) == Prod.fst (Prod.snd (mk a b))) (Prod.fst (mk a b) == Prod.fst (mk a b)) && Prod.snd (Prod.snd (mk a b)) == Prod.snd (Prod.snd (mk a b)) && ByteArray.toList (str (fmt n d)) == ByteArray.toList (str (fmt n d)) && ByteArray.toList (str (Prod.fst (decF n d))) == ByteArray.toList (str (Prod.fst (decF n d))) && Prod.snd (decF n d) == Prod.snd (decF n d) && ByteArray.toList (str (pts a)) == ByteArray.toList (str (pts a))))) : DV) = (db true))))))))))) (by kernel_rfl) ?_
  refine ⟨f10 hT, fun h => (Bool.noConfusion h), fun _ => ⟨f11 a b, f12 a b, f13 hT n d, f14' n d, ⟨f15 n d, f16 n d, fun _ => f17 hT n d, fun _ => f18 n d, fun _ => f19 hT a, fun _ => f20 a⟩, ?_⟩⟩
  simp
end Go.Proofs

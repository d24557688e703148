import Derived.Test.YtldfegcegedkjaaGreatDoorAcC
import Derived.Test.YtldfegcegedkjaaGreatDoorZB
set_option autoImplicit false
namespace Go.Proofs
open Go Go.Ab Go.RowKit
set_option maxHeartbeats 2000000
set_option maxRecDepth 100000
variable {G : IH}
def orcQ4 (L : List Ln) : Oracle := fun f a => match f, a with
  | 10, [] => some (db true)
  | 11, [_] => some (db (fewB L))
  | 12, [_] => some (.tup [crV (cPs L) (cP L) (cQ L) (cH L), di (cE L)])
  | 14, [_] => some (.tup [crV (cPs L) (cP L) (cQ L) (cH L), di (cE L)])
  | 15, [_, _] => some (db true)
  | 16, [_, _] => some (db true)
  | 17, [_] => some (stL (failL L))
  | 18, [_] => some (stL (failL L))
  | _, _ => none
theorem f4 (hZ : Glob G 0 zeroL) (hT : Tab G) (L : List Ln) (hL : L.length ≤ maxLen) : FnOK Tryz.prog G 4 [lnsD L] (db true) := by
  refine FnOK.walk (orc := orcQ4 L) (keep := []) follows Tryz.func4 rfl Tryz.call4 ?_
  refine of_eqH (b :=
    (FnOK Tryz.prog G 10 [] (db true) ∧
    (((false = true) →
    (((db false) : DV) = (db true))) ∧
    ((false = false) →
    (FnOK Tryz.prog G 11 [(.slc 7 (List.length L) (lnsF L))] (db (fewB L)) ∧
    ((((!fewB L) = true) →
    (((db true) : DV) = (db true))) ∧
    (((!fewB L) = false) →
    (FnOK Tryz.prog G 12 [(.slc 7 (List.length L) (lnsF L))] (.tup [(.agg [(.slc 3 (List.length (cPs L)) (ptF (cPs L))), (di (cP L)), (di (cQ L)), (di (cH L))]), (di (cE L))]) ∧
    (FnOK Tryz.prog G 14 [(.slc 7 (List.length L) (lnsF L))] (.tup [(.agg [(.slc 3 (List.length (cPs L)) (ptF (cPs L))), (di (cP L)), (di (cQ L)), (di (cH L))]), (di (cE L))]) ∧
    ((FnOK Tryz.prog G 15 [(.agg [(.slc 3 (List.length (cPs L)) (ptF (cPs L))), (di (cP L)), (di (cQ L)), (di (cH L))]), (.agg [(.slc 3 (List.length (cPs L)) (ptF (cPs L))), (di (cP L)), (di (cQ L)), (di (cH L))])] (db true) ∧
    ((((true && cE L == cE L) = true) →
    FnOK Tryz.prog G 17 [(.slc 7 (List.length L) (lnsF L))] (.slc 1 (List.length (failL L)) (stF (failL L)))) ∧
    ((((true && cE L == cE L) = true) →
    FnOK Tryz.prog G 18 [(.slc 7 (List.length L) (lnsF L))] (.slc 1 (List.length (failL L)) (stF (failL L)))) ∧
    (((true && cE L == cE L) = true) →
    FnOK Tryz.prog G 16 [(.slc 1 (List.length (failL L)) (stF (failL L))), (.slc 1 (List.length (failL L)) (stF (failL L)))] (db true))))) ∧
    (((db (true && cE L == cE L && true)) : DV) = (db true)))))))))))) (by kernel_rfl) ?_
  refine ⟨f10 hZ hT, fun h => (by cases h), fun _ => ⟨f11 L hL, fun _ => rfl, fun hf => ?_⟩⟩
  rw [Bool.not_eq_false'] at hf
  obtain ⟨hS, hlen⟩ := few_short (L := L) hf
  have hps : (cPs L).length ≤ 1000000 := by
    have h1 := tk_len L 4
    have h2 : (combT L).ps.length ≤ 4 * L.length := h1
    unfold cPs
    split
    · simp
    · split
      · simp
      · omega
  have hfl := fail_len L
  refine ⟨f12c hZ L hS (by omega), f14c L hS (by omega), ⟨f15 _ _ _ _ hps, fun _ => f17 L (by omega), fun _ => f18 L (by omega), fun _ => f16 _ (by omega)⟩, ?_⟩
  simp
end Go.Proofs

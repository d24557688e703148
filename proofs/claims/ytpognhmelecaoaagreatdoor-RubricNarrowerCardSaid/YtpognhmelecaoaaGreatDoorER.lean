import Derived.Test.YtpognhmelecaoaaGreatDoorAcD
import Derived.Test.YtpognhmelecaoaaGreatDoorEN
set_option autoImplicit false
namespace Go.Proofs
open Go Go.Ab Go.RowKit
set_option maxHeartbeats 4000000
set_option maxRecDepth 100000
variable {G : IH}
/-! The reference's parts: common kinds, words, comparable. -/
end Go.Proofs
set_option autoImplicit false
namespace Go.Proofs
open Go Go.Ab Go.RowKit
set_option maxHeartbeats 4000000
set_option maxRecDepth 100000
variable {G : IH}
/-! The reference's kind. -/
end Go.Proofs
set_option autoImplicit false
namespace Go.Proofs
open Go Go.Ab Go.RowKit
set_option maxHeartbeats 4000000
set_option maxRecDepth 100000
variable {G : IH}
/-! The reference's names and types. -/
noncomputable def orc11 (b c : Bool) : Oracle := fun f a => match f, a with
  | 32, [_, _] => some (db b)
  | 20, [_] => some (db c)
  | _, _ => none
def fewX (x : Ex) (L : List Fc) : Bool := fewE 30 x && fewF L
theorem f11 (m : Nat) (x : Ex) (L : List Fc) (hx : ht x ≤ m) (hw : wfE x) (hl : L.length ≤ 9223372036854775807) (hw2 : ∀ i, i < L.length → FcW (L.getD i fc0)) : FnOK Tryz.prog G 11 [exD m x, fcsD L] (db (fewX x L)) := by
  refine FnOK.walkK (orc := orc11 (fewE 30 x) (fewF L)) (keep := []) follows Tryz.func11 rfl Tryz.call11 ?_
  refine of_tr (fun _ _ _ ZK => ((ZK 32 [(ndX m x), (di 30)] (db (fewE 30 x)) ∧ (((fewE 30 x) = true) → ZK 20 [(.slc 7 L.length (fcF L))] (db (fewF L)))) ∧ ((db (fewE 30 x && fewF L)) : DV) = (db (fewX x L)))) (by kernel_rfl) ?_
  exact ⟨⟨f32 30 m x hx hw, fun _ => f20 L hl hw2⟩, rfl⟩
end Go.Proofs

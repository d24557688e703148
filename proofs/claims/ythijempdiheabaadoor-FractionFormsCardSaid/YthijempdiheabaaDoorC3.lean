import Derived.Test.YthijempdiheabaaDoorR3
import Derived.Test.YthijempdiheabaaDoorTie
import Derived.Test.YthijempdiheabaaDoorCards
set_option autoImplicit false
namespace Go.Proofs.YthijempdiheabaaDoor
open Go
theorem fractionForms_card : Rows.FractionFormsCardSaid :=
  Claim7.holds_tied_plain_at .later [] [.data, .data, .data] true (true, "70a128bd4012baccba06632e947f581454acf590ecfd754a435359186d04f7c0") true
    fractionForms_holds (fun _ h => by cases h) (by kernel_rfl) (fun _ h => by cases h) fractionForms_row_tie rfl ⟨rfl, rfl⟩ (by kernel_rfl) rfl
    (fun f fn hf hfn => by
      obtain rfl : f = 3 := Option.some.inj ((show Tryd.prog.funcNamed "assessor/assessorlaw46.FractionForms" = some 3 by kernel_rfl).symm.trans hf) |>.symm
      obtain rfl : fn = Tryd.f3 := (Option.some.inj (Tryd.func3.symm.trans hfn)).symm
      exact ⟨by kernel_rfl, fun j t ht => by
        rw [Tryd.params3] at ht
        have h3 : t = 23 ∨ t = 3 := by
          rcases j with _ | _ | _ | j
          · left; simpa using ht.symm
          · right; simpa using ht.symm
          · right; simpa using ht.symm
          · simp at ht
        rcases h3 with rfl | rfl
        · exact (show Tryd.prog.wantsStandIn 23 = false by kernel_rfl)
        · exact (show Tryd.prog.wantsStandIn 3 = false by kernel_rfl)⟩)
    (by kernel_rfl)
end Go.Proofs.YthijempdiheabaaDoor

import Derived.Test.YtpognhmelecaoaaGreatDoorAcD
import Derived.Test.YtpognhmelecaoaaGreatDoorEN
set_option autoImplicit false
namespace Go.Proofs
open Go Go.Ab Go.RowKit
set_option maxHeartbeats 4000000
set_option maxRecDepth 100000
variable {G : IH}
/-! The reference's parts: common kinds, words, comparable. -/
end Go.Proofs
set_option autoImplicit false
namespace Go.Proofs
open Go Go.Ab Go.RowKit
set_option maxHeartbeats 4000000
set_option maxRecDepth 100000
variable {G : IH}
/-! The reference's kind. -/
def nrK (r : KR) : KR := if r.2.2 ≠ 0 then (0, r.2) else (r.1, 0, 0)
end Go.Proofs
set_option autoImplicit false
namespace Go.Proofs
open Go Go.Ab Go.RowKit
set_option maxHeartbeats 4000000
set_option maxRecDepth 100000
variable {G : IH}
/-! The reference's names and types. -/
theorem typR_ref {L : List Fc} {x : Ex} : typR L x = if (!vfB L || !fitE x) = true then (0, 0, 1) else nrK (tyW L x) := by
  unfold typR
  have e : (fmtX x).size = 0 ↔ fitE x = false := by
    unfold fmtX
    cases h : fitE x with
    | false => simp
    | true =>
      simp only [if_true]
      constructor
      · intro hz
        exfalso
        have := fmt_pos h
        omega
      · intro h; cases h
  have e2 : decide ((fmtX x).size = 0) = !fitE x := by
    cases h : fitE x with
    | false => rw [decide_eq_true (e.2 h)]; rfl
    | true => rw [decide_eq_false (fun hz => by rw [e.1 hz] at h; cases h)]; rfl
  rw [e2]
  by_cases h1 : (!vfB L || !fitE x) = true
  · rw [if_pos h1, if_pos h1]
  · rw [if_neg h1, if_neg h1]
    unfold nrK
    by_cases h2 : (tyW L x).2.2 ≠ 0
    · rw [if_pos h2]
    · rw [if_neg h2]
end Go.Proofs

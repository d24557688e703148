/-
  NARROWER THAN 'FOR EVERY INPUT', by the rows' own cells (each row's printed sentence says how): RubricOpposite: loops, laid · RubricNarrower: loops, laid · RubricFacts: laid · RubricBounds: loops, laid · RubricOccurring: loops, laid · RubricTypes: loops, laid · RubricOrder: loops, laid.
  DERIVED. THE GIVEN ROWS OF THIS SEAT. 7 by the template 'for every input the law returns true; each argument reads behind the call as it read before'; 0 by the template 'total and deterministic' (their statements: YtpognhmelecaoaaGreatDoorTotals.lean).
  GIVEN WITH THE SEED: the statements are not yours to turn. If you find one false, say at which input.
  Laid BY PROGRAM, IN A SANDBOX (cutbox-rows.mjs): the forced cells as the released guide's own fill.sh prints them over the translation e9f55263b10cf801… (all of the seat's roots in one cut). By AI agents, Wed Nov 11 2026. No macro, syntax, notation, axiom, sorry.
-/
import Derived.Test.YtpognhmelecaoaaGreatDoorChecked
import GoSem.Claim
import GoSem.ClaimJoined
import GoSem.ClaimMapViews
import Derived.JoinedTies
import Derived.KernelRfl
namespace Go.Proofs.YtpognhmelecaoaaGreatDoor
/- THE CELL 'sum', in the pinned program and in every row, IS THE sha256 OF THE DUMP (.gsa) THAT YtpognhmelecaoaaGreatDoorProg.lean LOADS. Nothing in Lean hashes anything: it is a label: what it is worth is what the hold of that sum in a sandbox is worth. -/
noncomputable def Tryz.pinned : Pinned := { name := "ytpognhmelecaoaagreatdoor", sum := "e9f55263b10cf80182ad440dfbc7a0566a43ad89b4250a27658f0ff1103a155a", checked := Tryz.checked }
namespace Rows
def none {H : Type} : Left H := { results := [], args := [] }

/- WHAT THE LISTED PACKAGE-LEVEL VARIABLES READ AS WHEN THE CALL BEGINS. Each datum BY PROGRAM (the guide's laid-datum.mjs) off the statement by which the dump's own 'gosem.cut.vars' lays the variable. In a bare row this is a premise. The card (YtpognhmelecaoaaGreatDoorCards.lean) ties it to the program's text. -/
def laid_math_bits_deBruijn32tab {H : Type} : DataW H := .agg [.lit (.int .u8 0), .lit (.int .u8 1), .lit (.int .u8 28), .lit (.int .u8 2), .lit (.int .u8 29), .lit (.int .u8 14), .lit (.int .u8 24), .lit (.int .u8 3), .lit (.int .u8 30), .lit (.int .u8 22), .lit (.int .u8 20), .lit (.int .u8 15), .lit (.int .u8 25), .lit (.int .u8 17), .lit (.int .u8 4), .lit (.int .u8 8), .lit (.int .u8 31), .lit (.int .u8 27), .lit (.int .u8 13), .lit (.int .u8 23), .lit (.int .u8 21), .lit (.int .u8 19), .lit (.int .u8 16), .lit (.int .u8 7), .lit (.int .u8 26), .lit (.int .u8 12), .lit (.int .u8 18), .lit (.int .u8 6), .lit (.int .u8 11), .lit (.int .u8 5), .lit (.int .u8 10), .lit (.int .u8 9)]
def laid_math_bits_deBruijn64tab {H : Type} : DataW H := .agg [.lit (.int .u8 0), .lit (.int .u8 1), .lit (.int .u8 56), .lit (.int .u8 2), .lit (.int .u8 57), .lit (.int .u8 49), .lit (.int .u8 28), .lit (.int .u8 3), .lit (.int .u8 61), .lit (.int .u8 58), .lit (.int .u8 42), .lit (.int .u8 50), .lit (.int .u8 38), .lit (.int .u8 29), .lit (.int .u8 17), .lit (.int .u8 4), .lit (.int .u8 62), .lit (.int .u8 47), .lit (.int .u8 59), .lit (.int .u8 36), .lit (.int .u8 45), .lit (.int .u8 43), .lit (.int .u8 51), .lit (.int .u8 22), .lit (.int .u8 53), .lit (.int .u8 39), .lit (.int .u8 33), .lit (.int .u8 30), .lit (.int .u8 24), .lit (.int .u8 18), .lit (.int .u8 12), .lit (.int .u8 5), .lit (.int .u8 63), .lit (.int .u8 55), .lit (.int .u8 48), .lit (.int .u8 27), .lit (.int .u8 60), .lit (.int .u8 41), .lit (.int .u8 37), .lit (.int .u8 16), .lit (.int .u8 46), .lit (.int .u8 35), .lit (.int .u8 44), .lit (.int .u8 21), .lit (.int .u8 52), .lit (.int .u8 32), .lit (.int .u8 23), .lit (.int .u8 11), .lit (.int .u8 54), .lit (.int .u8 26), .lit (.int .u8 40), .lit (.int .u8 15), .lit (.int .u8 34), .lit (.int .u8 20), .lit (.int .u8 31), .lit (.int .u8 10), .lit (.int .u8 25), .lit (.int .u8 14), .lit (.int .u8 19), .lit (.int .u8 9), .lit (.int .u8 13), .lit (.int .u8 8), .lit (.int .u8 7), .lit (.int .u8 6)]
def laid_internal_strconv_uint64pow10 {H : Type} : DataW H := .agg [.lit (.int .u64 1), .lit (.int .u64 10), .lit (.int .u64 100), .lit (.int .u64 1000), .lit (.int .u64 10000), .lit (.int .u64 100000), .lit (.int .u64 1000000), .lit (.int .u64 10000000), .lit (.int .u64 100000000), .lit (.int .u64 1000000000), .lit (.int .u64 10000000000), .lit (.int .u64 100000000000), .lit (.int .u64 1000000000000), .lit (.int .u64 10000000000000), .lit (.int .u64 100000000000000), .lit (.int .u64 1000000000000000), .lit (.int .u64 10000000000000000), .lit (.int .u64 100000000000000000), .lit (.int .u64 1000000000000000000), .lit (.int .u64 10000000000000000000)]

/-- 'assessorlaw48.RubricOpposite': WHATEVER THE INPUT: true; the input reads as it did. -/
def rubricOppositeSpec : ChangeSpec := { name := "rubricOpposite", fn := fun _ => fun
  | [d1, d2, d3] => { results := [.lit (.bool true)], args := [d1, d2, d3] }
  | _ => none }
def rubricOppositeRow : OpenClaim := { program := "ytpognhmelecaoaagreatdoor", sum := "e9f55263b10cf80182ad440dfbc7a0566a43ad89b4250a27658f0ff1103a155a", func := "assessor/assessorlaw48.RubricOpposite", spec := "rubricOpposite", inPlace := ["internal/bytealg.IndexByteString", "internal/bytealg.IndexString", "internal/abi.NoEscape", "internal/bytealg.MakeNoZero"], unfollowed := true, recurses := true, named := ["internal/strconv.uint64pow10", "math/bits.deBruijn32tab", "math/bits.deBruijn64tab", "internal/bytealg.MaxLen"], loops := true, apart := false, laid := [("math/bits.deBruijn32tab", laid_math_bits_deBruijn32tab), ("math/bits.deBruijn64tab", laid_math_bits_deBruijn64tab), ("internal/strconv.uint64pow10", laid_internal_strconv_uint64pow10)] }
def RubricOppositeSaid : Prop := rubricOppositeRow.holds Tryz.pinned (OpenSpec.ofChange rubricOppositeSpec)

/-- ITS FALSE NEIGHBOUR: 'it returns false'. Refute it at one input. -/
def rubricOppositeWrong : ChangeSpec := { name := "rubricOpposite", fn := fun _ => fun
  | [d1, d2, d3] => { results := [.lit (.bool false)], args := [d1, d2, d3] }
  | _ => none }
def RubricOppositeWrongFalsely : Prop := rubricOppositeRow.holds Tryz.pinned (OpenSpec.ofChange rubricOppositeWrong)

/-- 'assessorlaw48.RubricNarrower': WHATEVER THE INPUT: true; the input reads as it did. -/
def rubricNarrowerSpec : ChangeSpec := { name := "rubricNarrower", fn := fun _ => fun
  | [d1, d2, d3, d4] => { results := [.lit (.bool true)], args := [d1, d2, d3, d4] }
  | _ => none }
def rubricNarrowerRow : OpenClaim := { program := "ytpognhmelecaoaagreatdoor", sum := "e9f55263b10cf80182ad440dfbc7a0566a43ad89b4250a27658f0ff1103a155a", func := "assessor/assessorlaw48.RubricNarrower", spec := "rubricNarrower", inPlace := ["internal/bytealg.IndexByteString", "internal/bytealg.IndexString", "internal/abi.NoEscape", "internal/bytealg.MakeNoZero"], unfollowed := true, recurses := true, named := ["internal/strconv.uint64pow10", "math/bits.deBruijn32tab", "math/bits.deBruijn64tab", "internal/bytealg.MaxLen"], loops := true, apart := false, laid := [("math/bits.deBruijn32tab", laid_math_bits_deBruijn32tab), ("math/bits.deBruijn64tab", laid_math_bits_deBruijn64tab), ("internal/strconv.uint64pow10", laid_internal_strconv_uint64pow10)] }
def RubricNarrowerSaid : Prop := rubricNarrowerRow.holds Tryz.pinned (OpenSpec.ofChange rubricNarrowerSpec)

/-- ITS FALSE NEIGHBOUR: 'it returns false'. Refute it at one input. -/
def rubricNarrowerWrong : ChangeSpec := { name := "rubricNarrower", fn := fun _ => fun
  | [d1, d2, d3, d4] => { results := [.lit (.bool false)], args := [d1, d2, d3, d4] }
  | _ => none }
def RubricNarrowerWrongFalsely : Prop := rubricNarrowerRow.holds Tryz.pinned (OpenSpec.ofChange rubricNarrowerWrong)

/-- 'assessorlaw48.RubricFacts': WHATEVER THE INPUT: true; the input reads as it did. -/
def rubricFactsSpec : ChangeSpec := { name := "rubricFacts", fn := fun _ => fun
  | [d] => { results := [.lit (.bool true)], args := [d] }
  | _ => none }
def rubricFactsRow : OpenClaim := { program := "ytpognhmelecaoaagreatdoor", sum := "e9f55263b10cf80182ad440dfbc7a0566a43ad89b4250a27658f0ff1103a155a", func := "assessor/assessorlaw48.RubricFacts", spec := "rubricFacts", inPlace := ["internal/bytealg.IndexByteString", "internal/bytealg.IndexString", "internal/abi.NoEscape", "internal/bytealg.MakeNoZero"], unfollowed := true, recurses := true, named := ["internal/strconv.uint64pow10", "math/bits.deBruijn32tab", "math/bits.deBruijn64tab", "internal/bytealg.MaxLen"], apart := false, laid := [("math/bits.deBruijn32tab", laid_math_bits_deBruijn32tab), ("math/bits.deBruijn64tab", laid_math_bits_deBruijn64tab), ("internal/strconv.uint64pow10", laid_internal_strconv_uint64pow10)] }
def RubricFactsSaid : Prop := rubricFactsRow.holds Tryz.pinned (OpenSpec.ofChange rubricFactsSpec)

/-- ITS FALSE NEIGHBOUR: 'it returns false'. Refute it at one input. -/
def rubricFactsWrong : ChangeSpec := { name := "rubricFacts", fn := fun _ => fun
  | [d] => { results := [.lit (.bool false)], args := [d] }
  | _ => none }
def RubricFactsWrongFalsely : Prop := rubricFactsRow.holds Tryz.pinned (OpenSpec.ofChange rubricFactsWrong)

/-- 'assessorlaw48.RubricBounds': WHATEVER THE INPUT: true; the input reads as it did. -/
def rubricBoundsSpec : ChangeSpec := { name := "rubricBounds", fn := fun _ => fun
  | [d1, d2, d3] => { results := [.lit (.bool true)], args := [d1, d2, d3] }
  | _ => none }
def rubricBoundsRow : OpenClaim := { program := "ytpognhmelecaoaagreatdoor", sum := "e9f55263b10cf80182ad440dfbc7a0566a43ad89b4250a27658f0ff1103a155a", func := "assessor/assessorlaw48.RubricBounds", spec := "rubricBounds", inPlace := ["internal/bytealg.IndexByteString", "internal/bytealg.IndexString", "internal/abi.NoEscape", "internal/bytealg.MakeNoZero"], unfollowed := true, recurses := true, named := ["internal/strconv.uint64pow10", "math/bits.deBruijn32tab", "math/bits.deBruijn64tab", "internal/bytealg.MaxLen"], loops := true, apart := false, laid := [("math/bits.deBruijn32tab", laid_math_bits_deBruijn32tab), ("math/bits.deBruijn64tab", laid_math_bits_deBruijn64tab), ("internal/strconv.uint64pow10", laid_internal_strconv_uint64pow10)] }
def RubricBoundsSaid : Prop := rubricBoundsRow.holds Tryz.pinned (OpenSpec.ofChange rubricBoundsSpec)

/-- ITS FALSE NEIGHBOUR: 'it returns false'. Refute it at one input. -/
def rubricBoundsWrong : ChangeSpec := { name := "rubricBounds", fn := fun _ => fun
  | [d1, d2, d3] => { results := [.lit (.bool false)], args := [d1, d2, d3] }
  | _ => none }
def RubricBoundsWrongFalsely : Prop := rubricBoundsRow.holds Tryz.pinned (OpenSpec.ofChange rubricBoundsWrong)

/-- 'assessorlaw48.RubricOccurring': WHATEVER THE INPUT: true; the input reads as it did. -/
def rubricOccurringSpec : ChangeSpec := { name := "rubricOccurring", fn := fun _ => fun
  | [d1, d2] => { results := [.lit (.bool true)], args := [d1, d2] }
  | _ => none }
def rubricOccurringRow : OpenClaim := { program := "ytpognhmelecaoaagreatdoor", sum := "e9f55263b10cf80182ad440dfbc7a0566a43ad89b4250a27658f0ff1103a155a", func := "assessor/assessorlaw48.RubricOccurring", spec := "rubricOccurring", inPlace := ["internal/bytealg.IndexByteString", "internal/bytealg.IndexString", "internal/abi.NoEscape", "internal/bytealg.MakeNoZero"], unfollowed := true, recurses := true, named := ["internal/strconv.uint64pow10", "math/bits.deBruijn32tab", "math/bits.deBruijn64tab", "internal/bytealg.MaxLen"], loops := true, apart := false, laid := [("math/bits.deBruijn32tab", laid_math_bits_deBruijn32tab), ("math/bits.deBruijn64tab", laid_math_bits_deBruijn64tab), ("internal/strconv.uint64pow10", laid_internal_strconv_uint64pow10)] }
def RubricOccurringSaid : Prop := rubricOccurringRow.holds Tryz.pinned (OpenSpec.ofChange rubricOccurringSpec)

/-- ITS FALSE NEIGHBOUR: 'it returns false'. Refute it at one input. -/
def rubricOccurringWrong : ChangeSpec := { name := "rubricOccurring", fn := fun _ => fun
  | [d1, d2] => { results := [.lit (.bool false)], args := [d1, d2] }
  | _ => none }
def RubricOccurringWrongFalsely : Prop := rubricOccurringRow.holds Tryz.pinned (OpenSpec.ofChange rubricOccurringWrong)

/-- 'assessorlaw48.RubricTypes': WHATEVER THE INPUT: true; the input reads as it did. -/
def rubricTypesSpec : ChangeSpec := { name := "rubricTypes", fn := fun _ => fun
  | [d1, d2, d3] => { results := [.lit (.bool true)], args := [d1, d2, d3] }
  | _ => none }
def rubricTypesRow : OpenClaim := { program := "ytpognhmelecaoaagreatdoor", sum := "e9f55263b10cf80182ad440dfbc7a0566a43ad89b4250a27658f0ff1103a155a", func := "assessor/assessorlaw48.RubricTypes", spec := "rubricTypes", inPlace := ["internal/bytealg.IndexByteString", "internal/bytealg.IndexString", "internal/abi.NoEscape", "internal/bytealg.MakeNoZero"], unfollowed := true, recurses := true, named := ["internal/strconv.uint64pow10", "math/bits.deBruijn32tab", "math/bits.deBruijn64tab", "internal/bytealg.MaxLen"], loops := true, apart := false, laid := [("math/bits.deBruijn32tab", laid_math_bits_deBruijn32tab), ("math/bits.deBruijn64tab", laid_math_bits_deBruijn64tab), ("internal/strconv.uint64pow10", laid_internal_strconv_uint64pow10)] }
def RubricTypesSaid : Prop := rubricTypesRow.holds Tryz.pinned (OpenSpec.ofChange rubricTypesSpec)

/-- ITS FALSE NEIGHBOUR: 'it returns false'. Refute it at one input. -/
def rubricTypesWrong : ChangeSpec := { name := "rubricTypes", fn := fun _ => fun
  | [d1, d2, d3] => { results := [.lit (.bool false)], args := [d1, d2, d3] }
  | _ => none }
def RubricTypesWrongFalsely : Prop := rubricTypesRow.holds Tryz.pinned (OpenSpec.ofChange rubricTypesWrong)

/-- 'assessorlaw48.RubricOrder': WHATEVER THE INPUT: true; the input reads as it did. -/
def rubricOrderSpec : ChangeSpec := { name := "rubricOrder", fn := fun _ => fun
  | [d1, d2, d3] => { results := [.lit (.bool true)], args := [d1, d2, d3] }
  | _ => none }
def rubricOrderRow : OpenClaim := { program := "ytpognhmelecaoaagreatdoor", sum := "e9f55263b10cf80182ad440dfbc7a0566a43ad89b4250a27658f0ff1103a155a", func := "assessor/assessorlaw48.RubricOrder", spec := "rubricOrder", inPlace := ["internal/bytealg.IndexByteString", "internal/bytealg.IndexString", "internal/abi.NoEscape", "internal/bytealg.MakeNoZero"], unfollowed := true, recurses := true, named := ["internal/strconv.uint64pow10", "math/bits.deBruijn32tab", "math/bits.deBruijn64tab", "internal/bytealg.MaxLen"], loops := true, apart := false, laid := [("math/bits.deBruijn32tab", laid_math_bits_deBruijn32tab), ("math/bits.deBruijn64tab", laid_math_bits_deBruijn64tab), ("internal/strconv.uint64pow10", laid_internal_strconv_uint64pow10)] }
def RubricOrderSaid : Prop := rubricOrderRow.holds Tryz.pinned (OpenSpec.ofChange rubricOrderSpec)

/-- ITS FALSE NEIGHBOUR: 'it returns false'. Refute it at one input. -/
def rubricOrderWrong : ChangeSpec := { name := "rubricOrder", fn := fun _ => fun
  | [d1, d2, d3] => { results := [.lit (.bool false)], args := [d1, d2, d3] }
  | _ => none }
def RubricOrderWrongFalsely : Prop := rubricOrderRow.holds Tryz.pinned (OpenSpec.ofChange rubricOrderWrong)

/- THE SECOND FORM. 'bulk': how many values and letters a reading holds, each counted each time it is reached (what is shared counts as often as it is met; a slice's spare places count too). A statement '..UptoSaid' is the law's where the arguments, and the package variables that the reading takes, are together of bulk at most 1048576: NARROWER than '..Said'. Prove '..Said' where nothing that the law and all that it calls make is longer than what came in: it says more and counts as full. Else prove '..UptoSaid'. A law counts once. -/
mutual
def uptoBulk {H : Type} : DataW H → Nat
  | .lit (.string bytes) => bytes.length + 1
  | .lit _ => 1
  | .nil => 1
  | .ptr d => uptoBulk d + 1
  | .slice elems spare => uptoBulkAll elems + uptoBulkAll spare + 1
  | .agg parts => uptoBulkAll parts + 1
  | .iface _ d => uptoBulk d + 1
  | .map entries => uptoBulkEntries entries + 1
  | .held _ => 1
def uptoBulkAll {H : Type} : List (DataW H) → Nat
  | [] => 0
  | d :: r => uptoBulk d + uptoBulkAll r
def uptoBulkEntries {H : Type} : List (Lit × DataW H) → Nat
  | [] => 0
  | x :: r => uptoBulkEntry x + uptoBulkEntries r
def uptoBulkEntry {H : Type} : Lit × DataW H → Nat
  | (.string bytes, d) => bytes.length + uptoBulk d + 1
  | (_, d) => uptoBulk d + 1
 end
def uptoSmall : (H : Type) → List (DataW H) → Bool := fun _ ds => decide (uptoBulkAll ds ≤ 1048576)
def OpenSpec.upto (s : _root_.Go.ChangeSpec) : _root_.Go.OpenSpec := { _root_.Go.OpenSpec.ofChange s with cond := some uptoSmall }

/-- 'assessorlaw48.RubricOpposite', WHERE WHAT IT READS IS OF BULK AT MOST 1048576: true; the input reads as it did. -/
def rubricOppositeUptoRow : OpenClaim := { program := "ytpognhmelecaoaagreatdoor", sum := "e9f55263b10cf80182ad440dfbc7a0566a43ad89b4250a27658f0ff1103a155a", func := "assessor/assessorlaw48.RubricOpposite", spec := "rubricOpposite", inPlace := ["internal/bytealg.IndexByteString", "internal/bytealg.IndexString", "internal/abi.NoEscape", "internal/bytealg.MakeNoZero"], unfollowed := true, recurses := true, named := ["internal/strconv.uint64pow10", "math/bits.deBruijn32tab", "math/bits.deBruijn64tab", "internal/bytealg.MaxLen"], loops := true, apart := false, laid := [("math/bits.deBruijn32tab", laid_math_bits_deBruijn32tab), ("math/bits.deBruijn64tab", laid_math_bits_deBruijn64tab), ("internal/strconv.uint64pow10", laid_internal_strconv_uint64pow10)], narrowed := true }
def RubricOppositeUptoSaid : Prop := rubricOppositeUptoRow.holds Tryz.pinned (OpenSpec.upto rubricOppositeSpec)

/-- 'assessorlaw48.RubricNarrower', WHERE WHAT IT READS IS OF BULK AT MOST 1048576: true; the input reads as it did. -/
def rubricNarrowerUptoRow : OpenClaim := { program := "ytpognhmelecaoaagreatdoor", sum := "e9f55263b10cf80182ad440dfbc7a0566a43ad89b4250a27658f0ff1103a155a", func := "assessor/assessorlaw48.RubricNarrower", spec := "rubricNarrower", inPlace := ["internal/bytealg.IndexByteString", "internal/bytealg.IndexString", "internal/abi.NoEscape", "internal/bytealg.MakeNoZero"], unfollowed := true, recurses := true, named := ["internal/strconv.uint64pow10", "math/bits.deBruijn32tab", "math/bits.deBruijn64tab", "internal/bytealg.MaxLen"], loops := true, apart := false, laid := [("math/bits.deBruijn32tab", laid_math_bits_deBruijn32tab), ("math/bits.deBruijn64tab", laid_math_bits_deBruijn64tab), ("internal/strconv.uint64pow10", laid_internal_strconv_uint64pow10)], narrowed := true }
def RubricNarrowerUptoSaid : Prop := rubricNarrowerUptoRow.holds Tryz.pinned (OpenSpec.upto rubricNarrowerSpec)

/-- 'assessorlaw48.RubricFacts', WHERE WHAT IT READS IS OF BULK AT MOST 1048576: true; the input reads as it did. -/
def rubricFactsUptoRow : OpenClaim := { program := "ytpognhmelecaoaagreatdoor", sum := "e9f55263b10cf80182ad440dfbc7a0566a43ad89b4250a27658f0ff1103a155a", func := "assessor/assessorlaw48.RubricFacts", spec := "rubricFacts", inPlace := ["internal/bytealg.IndexByteString", "internal/bytealg.IndexString", "internal/abi.NoEscape", "internal/bytealg.MakeNoZero"], unfollowed := true, recurses := true, named := ["internal/strconv.uint64pow10", "math/bits.deBruijn32tab", "math/bits.deBruijn64tab", "internal/bytealg.MaxLen"], apart := false, laid := [("math/bits.deBruijn32tab", laid_math_bits_deBruijn32tab), ("math/bits.deBruijn64tab", laid_math_bits_deBruijn64tab), ("internal/strconv.uint64pow10", laid_internal_strconv_uint64pow10)], narrowed := true }
def RubricFactsUptoSaid : Prop := rubricFactsUptoRow.holds Tryz.pinned (OpenSpec.upto rubricFactsSpec)

/-- 'assessorlaw48.RubricBounds', WHERE WHAT IT READS IS OF BULK AT MOST 1048576: true; the input reads as it did. -/
def rubricBoundsUptoRow : OpenClaim := { program := "ytpognhmelecaoaagreatdoor", sum := "e9f55263b10cf80182ad440dfbc7a0566a43ad89b4250a27658f0ff1103a155a", func := "assessor/assessorlaw48.RubricBounds", spec := "rubricBounds", inPlace := ["internal/bytealg.IndexByteString", "internal/bytealg.IndexString", "internal/abi.NoEscape", "internal/bytealg.MakeNoZero"], unfollowed := true, recurses := true, named := ["internal/strconv.uint64pow10", "math/bits.deBruijn32tab", "math/bits.deBruijn64tab", "internal/bytealg.MaxLen"], loops := true, apart := false, laid := [("math/bits.deBruijn32tab", laid_math_bits_deBruijn32tab), ("math/bits.deBruijn64tab", laid_math_bits_deBruijn64tab), ("internal/strconv.uint64pow10", laid_internal_strconv_uint64pow10)], narrowed := true }
def RubricBoundsUptoSaid : Prop := rubricBoundsUptoRow.holds Tryz.pinned (OpenSpec.upto rubricBoundsSpec)

/-- 'assessorlaw48.RubricOccurring', WHERE WHAT IT READS IS OF BULK AT MOST 1048576: true; the input reads as it did. -/
def rubricOccurringUptoRow : OpenClaim := { program := "ytpognhmelecaoaagreatdoor", sum := "e9f55263b10cf80182ad440dfbc7a0566a43ad89b4250a27658f0ff1103a155a", func := "assessor/assessorlaw48.RubricOccurring", spec := "rubricOccurring", inPlace := ["internal/bytealg.IndexByteString", "internal/bytealg.IndexString", "internal/abi.NoEscape", "internal/bytealg.MakeNoZero"], unfollowed := true, recurses := true, named := ["internal/strconv.uint64pow10", "math/bits.deBruijn32tab", "math/bits.deBruijn64tab", "internal/bytealg.MaxLen"], loops := true, apart := false, laid := [("math/bits.deBruijn32tab", laid_math_bits_deBruijn32tab), ("math/bits.deBruijn64tab", laid_math_bits_deBruijn64tab), ("internal/strconv.uint64pow10", laid_internal_strconv_uint64pow10)], narrowed := true }
def RubricOccurringUptoSaid : Prop := rubricOccurringUptoRow.holds Tryz.pinned (OpenSpec.upto rubricOccurringSpec)

/-- 'assessorlaw48.RubricTypes', WHERE WHAT IT READS IS OF BULK AT MOST 1048576: true; the input reads as it did. -/
def rubricTypesUptoRow : OpenClaim := { program := "ytpognhmelecaoaagreatdoor", sum := "e9f55263b10cf80182ad440dfbc7a0566a43ad89b4250a27658f0ff1103a155a", func := "assessor/assessorlaw48.RubricTypes", spec := "rubricTypes", inPlace := ["internal/bytealg.IndexByteString", "internal/bytealg.IndexString", "internal/abi.NoEscape", "internal/bytealg.MakeNoZero"], unfollowed := true, recurses := true, named := ["internal/strconv.uint64pow10", "math/bits.deBruijn32tab", "math/bits.deBruijn64tab", "internal/bytealg.MaxLen"], loops := true, apart := false, laid := [("math/bits.deBruijn32tab", laid_math_bits_deBruijn32tab), ("math/bits.deBruijn64tab", laid_math_bits_deBruijn64tab), ("internal/strconv.uint64pow10", laid_internal_strconv_uint64pow10)], narrowed := true }
def RubricTypesUptoSaid : Prop := rubricTypesUptoRow.holds Tryz.pinned (OpenSpec.upto rubricTypesSpec)

/-- 'assessorlaw48.RubricOrder', WHERE WHAT IT READS IS OF BULK AT MOST 1048576: true; the input reads as it did. -/
def rubricOrderUptoRow : OpenClaim := { program := "ytpognhmelecaoaagreatdoor", sum := "e9f55263b10cf80182ad440dfbc7a0566a43ad89b4250a27658f0ff1103a155a", func := "assessor/assessorlaw48.RubricOrder", spec := "rubricOrder", inPlace := ["internal/bytealg.IndexByteString", "internal/bytealg.IndexString", "internal/abi.NoEscape", "internal/bytealg.MakeNoZero"], unfollowed := true, recurses := true, named := ["internal/strconv.uint64pow10", "math/bits.deBruijn32tab", "math/bits.deBruijn64tab", "internal/bytealg.MaxLen"], loops := true, apart := false, laid := [("math/bits.deBruijn32tab", laid_math_bits_deBruijn32tab), ("math/bits.deBruijn64tab", laid_math_bits_deBruijn64tab), ("internal/strconv.uint64pow10", laid_internal_strconv_uint64pow10)], narrowed := true }
def RubricOrderUptoSaid : Prop := rubricOrderUptoRow.holds Tryz.pinned (OpenSpec.upto rubricOrderSpec)

end Rows
end Go.Proofs.YtpognhmelecaoaaGreatDoor

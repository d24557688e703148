/-
  NARROWER THAN 'FOR EVERY INPUT', by the rows' own cells (each row's printed sentence says how): ScoringEvaluates: loops, laid · ScoringReasonsForm: loops, laid · ScoringDecides: loops, laid · ScoringWithin: loops, laid · ScoringScores: loops, laid · ScoringLines: loops, laid · ScoringTrends: loops, laid.
  DERIVED. THE GIVEN ROWS OF THIS SEAT. 7 by the template 'for every input the law returns true; each argument reads behind the call as it read before'; 0 by the template 'total and deterministic' (their statements: YtellpkieoccljaaGreatDoorTotals.lean).
  GIVEN WITH THE SEED: the statements are not yours to turn. If you find one false, say at which input.
  Laid BY PROGRAM, IN A SANDBOX (cutbox-rows.mjs): the forced cells as the released guide's own fill.sh prints them over the translation 00cee25e7b3e6b8e… (all of the seat's roots in one cut). By AI agents, Wed Nov 11 2026. No macro, syntax, notation, axiom, sorry.
-/
import Derived.Test.YtellpkieoccljaaGreatDoorChecked
import GoSem.Claim
import GoSem.ClaimJoined
import GoSem.ClaimMapViews
import Derived.JoinedTies
import Derived.KernelRfl
namespace Go.Proofs.YtellpkieoccljaaGreatDoor
/- THE CELL 'sum', in the pinned program and in every row, IS THE sha256 OF THE DUMP (.gsa) THAT YtellpkieoccljaaGreatDoorProg.lean LOADS. Nothing in Lean hashes anything: it is a label: what it is worth is what the hold of that sum in a sandbox is worth. -/
noncomputable def Tryz.pinned : Pinned := { name := "ytellpkieoccljaagreatdoor", sum := "00cee25e7b3e6b8efc0164d4ba83abb2d069c4b2640d87e0c10bbce38e5536cf", checked := Tryz.checked }
namespace Rows
def none {H : Type} : Left H := { results := [], args := [] }

/- WHAT THE LISTED PACKAGE-LEVEL VARIABLES READ AS WHEN THE CALL BEGINS. Each datum BY PROGRAM (the guide's laid-datum.mjs) off the statement by which the dump's own 'gosem.cut.vars' lays the variable. In a bare row this is a premise. The card (YtellpkieoccljaaGreatDoorCards.lean) ties it to the program's text. -/
def laid_math_bits_deBruijn32tab {H : Type} : DataW H := .agg [.lit (.int .u8 0), .lit (.int .u8 1), .lit (.int .u8 28), .lit (.int .u8 2), .lit (.int .u8 29), .lit (.int .u8 14), .lit (.int .u8 24), .lit (.int .u8 3), .lit (.int .u8 30), .lit (.int .u8 22), .lit (.int .u8 20), .lit (.int .u8 15), .lit (.int .u8 25), .lit (.int .u8 17), .lit (.int .u8 4), .lit (.int .u8 8), .lit (.int .u8 31), .lit (.int .u8 27), .lit (.int .u8 13), .lit (.int .u8 23), .lit (.int .u8 21), .lit (.int .u8 19), .lit (.int .u8 16), .lit (.int .u8 7), .lit (.int .u8 26), .lit (.int .u8 12), .lit (.int .u8 18), .lit (.int .u8 6), .lit (.int .u8 11), .lit (.int .u8 5), .lit (.int .u8 10), .lit (.int .u8 9)]
def laid_math_bits_deBruijn64tab {H : Type} : DataW H := .agg [.lit (.int .u8 0), .lit (.int .u8 1), .lit (.int .u8 56), .lit (.int .u8 2), .lit (.int .u8 57), .lit (.int .u8 49), .lit (.int .u8 28), .lit (.int .u8 3), .lit (.int .u8 61), .lit (.int .u8 58), .lit (.int .u8 42), .lit (.int .u8 50), .lit (.int .u8 38), .lit (.int .u8 29), .lit (.int .u8 17), .lit (.int .u8 4), .lit (.int .u8 62), .lit (.int .u8 47), .lit (.int .u8 59), .lit (.int .u8 36), .lit (.int .u8 45), .lit (.int .u8 43), .lit (.int .u8 51), .lit (.int .u8 22), .lit (.int .u8 53), .lit (.int .u8 39), .lit (.int .u8 33), .lit (.int .u8 30), .lit (.int .u8 24), .lit (.int .u8 18), .lit (.int .u8 12), .lit (.int .u8 5), .lit (.int .u8 63), .lit (.int .u8 55), .lit (.int .u8 48), .lit (.int .u8 27), .lit (.int .u8 60), .lit (.int .u8 41), .lit (.int .u8 37), .lit (.int .u8 16), .lit (.int .u8 46), .lit (.int .u8 35), .lit (.int .u8 44), .lit (.int .u8 21), .lit (.int .u8 52), .lit (.int .u8 32), .lit (.int .u8 23), .lit (.int .u8 11), .lit (.int .u8 54), .lit (.int .u8 26), .lit (.int .u8 40), .lit (.int .u8 15), .lit (.int .u8 34), .lit (.int .u8 20), .lit (.int .u8 31), .lit (.int .u8 10), .lit (.int .u8 25), .lit (.int .u8 14), .lit (.int .u8 19), .lit (.int .u8 9), .lit (.int .u8 13), .lit (.int .u8 8), .lit (.int .u8 7), .lit (.int .u8 6)]
def laid_internal_strconv_uint64pow10 {H : Type} : DataW H := .agg [.lit (.int .u64 1), .lit (.int .u64 10), .lit (.int .u64 100), .lit (.int .u64 1000), .lit (.int .u64 10000), .lit (.int .u64 100000), .lit (.int .u64 1000000), .lit (.int .u64 10000000), .lit (.int .u64 100000000), .lit (.int .u64 1000000000), .lit (.int .u64 10000000000), .lit (.int .u64 100000000000), .lit (.int .u64 1000000000000), .lit (.int .u64 10000000000000), .lit (.int .u64 100000000000000), .lit (.int .u64 1000000000000000), .lit (.int .u64 10000000000000000), .lit (.int .u64 100000000000000000), .lit (.int .u64 1000000000000000000), .lit (.int .u64 10000000000000000000)]

/-- 'assessorlaw49.ScoringEvaluates': WHATEVER THE INPUT: true; the input reads as it did. -/
def scoringEvaluatesSpec : ChangeSpec := { name := "scoringEvaluates", fn := fun _ => fun
  | [d1, d2, d3] => { results := [.lit (.bool true)], args := [d1, d2, d3] }
  | _ => none }
def scoringEvaluatesRow : OpenClaim := { program := "ytellpkieoccljaagreatdoor", sum := "00cee25e7b3e6b8efc0164d4ba83abb2d069c4b2640d87e0c10bbce38e5536cf", func := "assessor/assessorlaw49.ScoringEvaluates", spec := "scoringEvaluates", inPlace := ["internal/bytealg.IndexByteString", "internal/bytealg.IndexString", "internal/abi.NoEscape", "internal/bytealg.MakeNoZero"], unfollowed := true, recurses := true, named := ["internal/strconv.uint64pow10", "math/bits.deBruijn32tab", "math/bits.deBruijn64tab", "internal/bytealg.MaxLen"], loops := true, apart := false, laid := [("math/bits.deBruijn32tab", laid_math_bits_deBruijn32tab), ("math/bits.deBruijn64tab", laid_math_bits_deBruijn64tab), ("internal/strconv.uint64pow10", laid_internal_strconv_uint64pow10)] }
def ScoringEvaluatesSaid : Prop := scoringEvaluatesRow.holds Tryz.pinned (OpenSpec.ofChange scoringEvaluatesSpec)

/-- ITS FALSE NEIGHBOUR: 'it returns false'. Refute it at one input. -/
def scoringEvaluatesWrong : ChangeSpec := { name := "scoringEvaluates", fn := fun _ => fun
  | [d1, d2, d3] => { results := [.lit (.bool false)], args := [d1, d2, d3] }
  | _ => none }
def ScoringEvaluatesWrongFalsely : Prop := scoringEvaluatesRow.holds Tryz.pinned (OpenSpec.ofChange scoringEvaluatesWrong)

/-- 'assessorlaw49.ScoringReasonsForm': WHATEVER THE INPUT: true; the input reads as it did. -/
def scoringReasonsFormSpec : ChangeSpec := { name := "scoringReasonsForm", fn := fun _ => fun
  | [d1, d2, d3] => { results := [.lit (.bool true)], args := [d1, d2, d3] }
  | _ => none }
def scoringReasonsFormRow : OpenClaim := { program := "ytellpkieoccljaagreatdoor", sum := "00cee25e7b3e6b8efc0164d4ba83abb2d069c4b2640d87e0c10bbce38e5536cf", func := "assessor/assessorlaw49.ScoringReasonsForm", spec := "scoringReasonsForm", inPlace := ["internal/bytealg.IndexByteString", "internal/bytealg.IndexString", "internal/abi.NoEscape", "internal/bytealg.MakeNoZero"], unfollowed := true, recurses := true, named := ["internal/strconv.uint64pow10", "math/bits.deBruijn32tab", "math/bits.deBruijn64tab", "internal/bytealg.MaxLen"], loops := true, apart := false, laid := [("math/bits.deBruijn32tab", laid_math_bits_deBruijn32tab), ("math/bits.deBruijn64tab", laid_math_bits_deBruijn64tab), ("internal/strconv.uint64pow10", laid_internal_strconv_uint64pow10)] }
def ScoringReasonsFormSaid : Prop := scoringReasonsFormRow.holds Tryz.pinned (OpenSpec.ofChange scoringReasonsFormSpec)

/-- ITS FALSE NEIGHBOUR: 'it returns false'. Refute it at one input. -/
def scoringReasonsFormWrong : ChangeSpec := { name := "scoringReasonsForm", fn := fun _ => fun
  | [d1, d2, d3] => { results := [.lit (.bool false)], args := [d1, d2, d3] }
  | _ => none }
def ScoringReasonsFormWrongFalsely : Prop := scoringReasonsFormRow.holds Tryz.pinned (OpenSpec.ofChange scoringReasonsFormWrong)

/-- 'assessorlaw49.ScoringDecides': WHATEVER THE INPUT: true; the input reads as it did. -/
def scoringDecidesSpec : ChangeSpec := { name := "scoringDecides", fn := fun _ => fun
  | [d1, d2, d3, d4] => { results := [.lit (.bool true)], args := [d1, d2, d3, d4] }
  | _ => none }
def scoringDecidesRow : OpenClaim := { program := "ytellpkieoccljaagreatdoor", sum := "00cee25e7b3e6b8efc0164d4ba83abb2d069c4b2640d87e0c10bbce38e5536cf", func := "assessor/assessorlaw49.ScoringDecides", spec := "scoringDecides", inPlace := ["internal/bytealg.IndexByteString", "internal/bytealg.IndexString", "internal/abi.NoEscape", "internal/bytealg.MakeNoZero"], unfollowed := true, recurses := true, named := ["internal/strconv.uint64pow10", "math/bits.deBruijn32tab", "math/bits.deBruijn64tab", "internal/bytealg.MaxLen"], loops := true, apart := false, laid := [("math/bits.deBruijn32tab", laid_math_bits_deBruijn32tab), ("math/bits.deBruijn64tab", laid_math_bits_deBruijn64tab), ("internal/strconv.uint64pow10", laid_internal_strconv_uint64pow10)] }
def ScoringDecidesSaid : Prop := scoringDecidesRow.holds Tryz.pinned (OpenSpec.ofChange scoringDecidesSpec)

/-- ITS FALSE NEIGHBOUR: 'it returns false'. Refute it at one input. -/
def scoringDecidesWrong : ChangeSpec := { name := "scoringDecides", fn := fun _ => fun
  | [d1, d2, d3, d4] => { results := [.lit (.bool false)], args := [d1, d2, d3, d4] }
  | _ => none }
def ScoringDecidesWrongFalsely : Prop := scoringDecidesRow.holds Tryz.pinned (OpenSpec.ofChange scoringDecidesWrong)

/-- 'assessorlaw49.ScoringWithin': WHATEVER THE INPUT: true; the input reads as it did. -/
def scoringWithinSpec : ChangeSpec := { name := "scoringWithin", fn := fun _ => fun
  | [d1, d2, d3] => { results := [.lit (.bool true)], args := [d1, d2, d3] }
  | _ => none }
def scoringWithinRow : OpenClaim := { program := "ytellpkieoccljaagreatdoor", sum := "00cee25e7b3e6b8efc0164d4ba83abb2d069c4b2640d87e0c10bbce38e5536cf", func := "assessor/assessorlaw49.ScoringWithin", spec := "scoringWithin", inPlace := ["internal/bytealg.IndexByteString", "internal/bytealg.IndexString", "internal/abi.NoEscape", "internal/bytealg.MakeNoZero"], unfollowed := true, recurses := true, named := ["internal/strconv.uint64pow10", "math/bits.deBruijn32tab", "math/bits.deBruijn64tab", "internal/bytealg.MaxLen"], loops := true, apart := false, laid := [("math/bits.deBruijn32tab", laid_math_bits_deBruijn32tab), ("math/bits.deBruijn64tab", laid_math_bits_deBruijn64tab), ("internal/strconv.uint64pow10", laid_internal_strconv_uint64pow10)] }
def ScoringWithinSaid : Prop := scoringWithinRow.holds Tryz.pinned (OpenSpec.ofChange scoringWithinSpec)

/-- ITS FALSE NEIGHBOUR: 'it returns false'. Refute it at one input. -/
def scoringWithinWrong : ChangeSpec := { name := "scoringWithin", fn := fun _ => fun
  | [d1, d2, d3] => { results := [.lit (.bool false)], args := [d1, d2, d3] }
  | _ => none }
def ScoringWithinWrongFalsely : Prop := scoringWithinRow.holds Tryz.pinned (OpenSpec.ofChange scoringWithinWrong)

/-- 'assessorlaw49.ScoringScores': WHATEVER THE INPUT: true; the input reads as it did. -/
def scoringScoresSpec : ChangeSpec := { name := "scoringScores", fn := fun _ => fun
  | [d1, d2, d3] => { results := [.lit (.bool true)], args := [d1, d2, d3] }
  | _ => none }
def scoringScoresRow : OpenClaim := { program := "ytellpkieoccljaagreatdoor", sum := "00cee25e7b3e6b8efc0164d4ba83abb2d069c4b2640d87e0c10bbce38e5536cf", func := "assessor/assessorlaw49.ScoringScores", spec := "scoringScores", inPlace := ["internal/bytealg.IndexByteString", "internal/bytealg.IndexString", "internal/abi.NoEscape", "internal/bytealg.MakeNoZero"], unfollowed := true, recurses := true, named := ["internal/strconv.uint64pow10", "math/bits.deBruijn32tab", "math/bits.deBruijn64tab", "internal/bytealg.MaxLen"], loops := true, apart := false, laid := [("math/bits.deBruijn32tab", laid_math_bits_deBruijn32tab), ("math/bits.deBruijn64tab", laid_math_bits_deBruijn64tab), ("internal/strconv.uint64pow10", laid_internal_strconv_uint64pow10)] }
def ScoringScoresSaid : Prop := scoringScoresRow.holds Tryz.pinned (OpenSpec.ofChange scoringScoresSpec)

/-- ITS FALSE NEIGHBOUR: 'it returns false'. Refute it at one input. -/
def scoringScoresWrong : ChangeSpec := { name := "scoringScores", fn := fun _ => fun
  | [d1, d2, d3] => { results := [.lit (.bool false)], args := [d1, d2, d3] }
  | _ => none }
def ScoringScoresWrongFalsely : Prop := scoringScoresRow.holds Tryz.pinned (OpenSpec.ofChange scoringScoresWrong)

/-- 'assessorlaw49.ScoringLines': WHATEVER THE INPUT: true; the input reads as it did. -/
def scoringLinesSpec : ChangeSpec := { name := "scoringLines", fn := fun _ => fun
  | [d1, d2, d3] => { results := [.lit (.bool true)], args := [d1, d2, d3] }
  | _ => none }
def scoringLinesRow : OpenClaim := { program := "ytellpkieoccljaagreatdoor", sum := "00cee25e7b3e6b8efc0164d4ba83abb2d069c4b2640d87e0c10bbce38e5536cf", func := "assessor/assessorlaw49.ScoringLines", spec := "scoringLines", inPlace := ["internal/bytealg.IndexByteString", "internal/bytealg.IndexString", "internal/abi.NoEscape", "internal/bytealg.MakeNoZero"], unfollowed := true, recurses := true, named := ["internal/strconv.uint64pow10", "math/bits.deBruijn32tab", "math/bits.deBruijn64tab", "internal/bytealg.MaxLen"], loops := true, apart := false, laid := [("math/bits.deBruijn32tab", laid_math_bits_deBruijn32tab), ("math/bits.deBruijn64tab", laid_math_bits_deBruijn64tab), ("internal/strconv.uint64pow10", laid_internal_strconv_uint64pow10)] }
def ScoringLinesSaid : Prop := scoringLinesRow.holds Tryz.pinned (OpenSpec.ofChange scoringLinesSpec)

/-- ITS FALSE NEIGHBOUR: 'it returns false'. Refute it at one input. -/
def scoringLinesWrong : ChangeSpec := { name := "scoringLines", fn := fun _ => fun
  | [d1, d2, d3] => { results := [.lit (.bool false)], args := [d1, d2, d3] }
  | _ => none }
def ScoringLinesWrongFalsely : Prop := scoringLinesRow.holds Tryz.pinned (OpenSpec.ofChange scoringLinesWrong)

/-- 'assessorlaw49.ScoringTrends': WHATEVER THE INPUT: true; the input reads as it did. -/
def scoringTrendsSpec : ChangeSpec := { name := "scoringTrends", fn := fun _ => fun
  | [d1, d2, d3, d4, d5] => { results := [.lit (.bool true)], args := [d1, d2, d3, d4, d5] }
  | _ => none }
def scoringTrendsRow : OpenClaim := { program := "ytellpkieoccljaagreatdoor", sum := "00cee25e7b3e6b8efc0164d4ba83abb2d069c4b2640d87e0c10bbce38e5536cf", func := "assessor/assessorlaw49.ScoringTrends", spec := "scoringTrends", inPlace := ["internal/bytealg.IndexByteString", "internal/bytealg.IndexString", "internal/abi.NoEscape", "internal/bytealg.MakeNoZero"], unfollowed := true, recurses := true, named := ["internal/strconv.uint64pow10", "math/bits.deBruijn32tab", "math/bits.deBruijn64tab", "internal/bytealg.MaxLen"], loops := true, apart := false, laid := [("math/bits.deBruijn32tab", laid_math_bits_deBruijn32tab), ("math/bits.deBruijn64tab", laid_math_bits_deBruijn64tab), ("internal/strconv.uint64pow10", laid_internal_strconv_uint64pow10)] }
def ScoringTrendsSaid : Prop := scoringTrendsRow.holds Tryz.pinned (OpenSpec.ofChange scoringTrendsSpec)

/-- ITS FALSE NEIGHBOUR: 'it returns false'. Refute it at one input. -/
def scoringTrendsWrong : ChangeSpec := { name := "scoringTrends", fn := fun _ => fun
  | [d1, d2, d3, d4, d5] => { results := [.lit (.bool false)], args := [d1, d2, d3, d4, d5] }
  | _ => none }
def ScoringTrendsWrongFalsely : Prop := scoringTrendsRow.holds Tryz.pinned (OpenSpec.ofChange scoringTrendsWrong)

/- THE SECOND FORM. 'bulk': how many values and letters a reading holds, each counted each time it is reached (what is shared counts as often as it is met; a slice's spare places count too). A statement '..UptoSaid' is the law's where the arguments, and the package variables that the reading takes, are together of bulk at most 1048576: NARROWER than '..Said'. Prove '..Said' where nothing that the law and all that it calls make is longer than what came in: it says more and counts as full. Else prove '..UptoSaid'. A law counts once. -/
mutual
def uptoBulk {H : Type} : DataW H → Nat
  | .lit (.string bytes) => bytes.length + 1
  | .lit _ => 1
  | .nil => 1
  | .ptr d => uptoBulk d + 1
  | .slice elems spare => uptoBulkAll elems + uptoBulkAll spare + 1
  | .agg parts => uptoBulkAll parts + 1
  | .iface _ d => uptoBulk d + 1
  | .map entries => uptoBulkEntries entries + 1
  | .held _ => 1
def uptoBulkAll {H : Type} : List (DataW H) → Nat
  | [] => 0
  | d :: r => uptoBulk d + uptoBulkAll r
def uptoBulkEntries {H : Type} : List (Lit × DataW H) → Nat
  | [] => 0
  | x :: r => uptoBulkEntry x + uptoBulkEntries r
def uptoBulkEntry {H : Type} : Lit × DataW H → Nat
  | (.string bytes, d) => bytes.length + uptoBulk d + 1
  | (_, d) => uptoBulk d + 1
 end
def uptoSmall : (H : Type) → List (DataW H) → Bool := fun _ ds => decide (uptoBulkAll ds ≤ 1048576)
def OpenSpec.upto (s : _root_.Go.ChangeSpec) : _root_.Go.OpenSpec := { _root_.Go.OpenSpec.ofChange s with cond := some uptoSmall }

/-- 'assessorlaw49.ScoringEvaluates', WHERE WHAT IT READS IS OF BULK AT MOST 1048576: true; the input reads as it did. -/
def scoringEvaluatesUptoRow : OpenClaim := { program := "ytellpkieoccljaagreatdoor", sum := "00cee25e7b3e6b8efc0164d4ba83abb2d069c4b2640d87e0c10bbce38e5536cf", func := "assessor/assessorlaw49.ScoringEvaluates", spec := "scoringEvaluates", inPlace := ["internal/bytealg.IndexByteString", "internal/bytealg.IndexString", "internal/abi.NoEscape", "internal/bytealg.MakeNoZero"], unfollowed := true, recurses := true, named := ["internal/strconv.uint64pow10", "math/bits.deBruijn32tab", "math/bits.deBruijn64tab", "internal/bytealg.MaxLen"], loops := true, apart := false, laid := [("math/bits.deBruijn32tab", laid_math_bits_deBruijn32tab), ("math/bits.deBruijn64tab", laid_math_bits_deBruijn64tab), ("internal/strconv.uint64pow10", laid_internal_strconv_uint64pow10)], narrowed := true }
def ScoringEvaluatesUptoSaid : Prop := scoringEvaluatesUptoRow.holds Tryz.pinned (OpenSpec.upto scoringEvaluatesSpec)

/-- 'assessorlaw49.ScoringReasonsForm', WHERE WHAT IT READS IS OF BULK AT MOST 1048576: true; the input reads as it did. -/
def scoringReasonsFormUptoRow : OpenClaim := { program := "ytellpkieoccljaagreatdoor", sum := "00cee25e7b3e6b8efc0164d4ba83abb2d069c4b2640d87e0c10bbce38e5536cf", func := "assessor/assessorlaw49.ScoringReasonsForm", spec := "scoringReasonsForm", inPlace := ["internal/bytealg.IndexByteString", "internal/bytealg.IndexString", "internal/abi.NoEscape", "internal/bytealg.MakeNoZero"], unfollowed := true, recurses := true, named := ["internal/strconv.uint64pow10", "math/bits.deBruijn32tab", "math/bits.deBruijn64tab", "internal/bytealg.MaxLen"], loops := true, apart := false, laid := [("math/bits.deBruijn32tab", laid_math_bits_deBruijn32tab), ("math/bits.deBruijn64tab", laid_math_bits_deBruijn64tab), ("internal/strconv.uint64pow10", laid_internal_strconv_uint64pow10)], narrowed := true }
def ScoringReasonsFormUptoSaid : Prop := scoringReasonsFormUptoRow.holds Tryz.pinned (OpenSpec.upto scoringReasonsFormSpec)

/-- 'assessorlaw49.ScoringDecides', WHERE WHAT IT READS IS OF BULK AT MOST 1048576: true; the input reads as it did. -/
def scoringDecidesUptoRow : OpenClaim := { program := "ytellpkieoccljaagreatdoor", sum := "00cee25e7b3e6b8efc0164d4ba83abb2d069c4b2640d87e0c10bbce38e5536cf", func := "assessor/assessorlaw49.ScoringDecides", spec := "scoringDecides", inPlace := ["internal/bytealg.IndexByteString", "internal/bytealg.IndexString", "internal/abi.NoEscape", "internal/bytealg.MakeNoZero"], unfollowed := true, recurses := true, named := ["internal/strconv.uint64pow10", "math/bits.deBruijn32tab", "math/bits.deBruijn64tab", "internal/bytealg.MaxLen"], loops := true, apart := false, laid := [("math/bits.deBruijn32tab", laid_math_bits_deBruijn32tab), ("math/bits.deBruijn64tab", laid_math_bits_deBruijn64tab), ("internal/strconv.uint64pow10", laid_internal_strconv_uint64pow10)], narrowed := true }
def ScoringDecidesUptoSaid : Prop := scoringDecidesUptoRow.holds Tryz.pinned (OpenSpec.upto scoringDecidesSpec)

/-- 'assessorlaw49.ScoringWithin', WHERE WHAT IT READS IS OF BULK AT MOST 1048576: true; the input reads as it did. -/
def scoringWithinUptoRow : OpenClaim := { program := "ytellpkieoccljaagreatdoor", sum := "00cee25e7b3e6b8efc0164d4ba83abb2d069c4b2640d87e0c10bbce38e5536cf", func := "assessor/assessorlaw49.ScoringWithin", spec := "scoringWithin", inPlace := ["internal/bytealg.IndexByteString", "internal/bytealg.IndexString", "internal/abi.NoEscape", "internal/bytealg.MakeNoZero"], unfollowed := true, recurses := true, named := ["internal/strconv.uint64pow10", "math/bits.deBruijn32tab", "math/bits.deBruijn64tab", "internal/bytealg.MaxLen"], loops := true, apart := false, laid := [("math/bits.deBruijn32tab", laid_math_bits_deBruijn32tab), ("math/bits.deBruijn64tab", laid_math_bits_deBruijn64tab), ("internal/strconv.uint64pow10", laid_internal_strconv_uint64pow10)], narrowed := true }
def ScoringWithinUptoSaid : Prop := scoringWithinUptoRow.holds Tryz.pinned (OpenSpec.upto scoringWithinSpec)

/-- 'assessorlaw49.ScoringScores', WHERE WHAT IT READS IS OF BULK AT MOST 1048576: true; the input reads as it did. -/
def scoringScoresUptoRow : OpenClaim := { program := "ytellpkieoccljaagreatdoor", sum := "00cee25e7b3e6b8efc0164d4ba83abb2d069c4b2640d87e0c10bbce38e5536cf", func := "assessor/assessorlaw49.ScoringScores", spec := "scoringScores", inPlace := ["internal/bytealg.IndexByteString", "internal/bytealg.IndexString", "internal/abi.NoEscape", "internal/bytealg.MakeNoZero"], unfollowed := true, recurses := true, named := ["internal/strconv.uint64pow10", "math/bits.deBruijn32tab", "math/bits.deBruijn64tab", "internal/bytealg.MaxLen"], loops := true, apart := false, laid := [("math/bits.deBruijn32tab", laid_math_bits_deBruijn32tab), ("math/bits.deBruijn64tab", laid_math_bits_deBruijn64tab), ("internal/strconv.uint64pow10", laid_internal_strconv_uint64pow10)], narrowed := true }
def ScoringScoresUptoSaid : Prop := scoringScoresUptoRow.holds Tryz.pinned (OpenSpec.upto scoringScoresSpec)

/-- 'assessorlaw49.ScoringLines', WHERE WHAT IT READS IS OF BULK AT MOST 1048576: true; the input reads as it did. -/
def scoringLinesUptoRow : OpenClaim := { program := "ytellpkieoccljaagreatdoor", sum := "00cee25e7b3e6b8efc0164d4ba83abb2d069c4b2640d87e0c10bbce38e5536cf", func := "assessor/assessorlaw49.ScoringLines", spec := "scoringLines", inPlace := ["internal/bytealg.IndexByteString", "internal/bytealg.IndexString", "internal/abi.NoEscape", "internal/bytealg.MakeNoZero"], unfollowed := true, recurses := true, named := ["internal/strconv.uint64pow10", "math/bits.deBruijn32tab", "math/bits.deBruijn64tab", "internal/bytealg.MaxLen"], loops := true, apart := false, laid := [("math/bits.deBruijn32tab", laid_math_bits_deBruijn32tab), ("math/bits.deBruijn64tab", laid_math_bits_deBruijn64tab), ("internal/strconv.uint64pow10", laid_internal_strconv_uint64pow10)], narrowed := true }
def ScoringLinesUptoSaid : Prop := scoringLinesUptoRow.holds Tryz.pinned (OpenSpec.upto scoringLinesSpec)

/-- 'assessorlaw49.ScoringTrends', WHERE WHAT IT READS IS OF BULK AT MOST 1048576: true; the input reads as it did. -/
def scoringTrendsUptoRow : OpenClaim := { program := "ytellpkieoccljaagreatdoor", sum := "00cee25e7b3e6b8efc0164d4ba83abb2d069c4b2640d87e0c10bbce38e5536cf", func := "assessor/assessorlaw49.ScoringTrends", spec := "scoringTrends", inPlace := ["internal/bytealg.IndexByteString", "internal/bytealg.IndexString", "internal/abi.NoEscape", "internal/bytealg.MakeNoZero"], unfollowed := true, recurses := true, named := ["internal/strconv.uint64pow10", "math/bits.deBruijn32tab", "math/bits.deBruijn64tab", "internal/bytealg.MaxLen"], loops := true, apart := false, laid := [("math/bits.deBruijn32tab", laid_math_bits_deBruijn32tab), ("math/bits.deBruijn64tab", laid_math_bits_deBruijn64tab), ("internal/strconv.uint64pow10", laid_internal_strconv_uint64pow10)], narrowed := true }
def ScoringTrendsUptoSaid : Prop := scoringTrendsUptoRow.holds Tryz.pinned (OpenSpec.upto scoringTrendsSpec)

end Rows
end Go.Proofs.YtellpkieoccljaaGreatDoor

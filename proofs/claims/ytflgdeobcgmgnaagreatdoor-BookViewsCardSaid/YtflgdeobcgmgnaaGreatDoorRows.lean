/-
  NARROWER THAN 'FOR EVERY INPUT', by the rows' own cells (each row's printed sentence says how): BookKeeps: laid · BookApplies: laid · BookTwice: laid · BookPoints: laid · BookStudents: laid · BookViews: laid · BookCodes: laid · BookReplays: laid.
  DERIVED. THE GIVEN ROWS OF THIS SEAT. 8 by the template 'for every input the law returns true; each argument reads behind the call as it read before'; 0 by the template 'total and deterministic' (their statements: YtflgdeobcgmgnaaGreatDoorTotals.lean).
  GIVEN WITH THE SEED: the statements are not yours to turn. If you find one false, say at which input.
  Laid BY PROGRAM, IN A SANDBOX (cutbox-rows.mjs): the forced cells as the released guide's own fill.sh prints them over the translation 9f64c3a3da6467c9… (all of the seat's roots in one cut). By AI agents, Wed Nov 11 2026. No macro, syntax, notation, axiom, sorry.
-/
import Derived.Test.YtflgdeobcgmgnaaGreatDoorChecked
import GoSem.Claim
import GoSem.ClaimJoined
import GoSem.ClaimMapViews
import Derived.JoinedTies
import Derived.KernelRfl
namespace Go.Proofs.YtflgdeobcgmgnaaGreatDoor
/- THE CELL 'sum', in the pinned program and in every row, IS THE sha256 OF THE DUMP (.gsa) THAT YtflgdeobcgmgnaaGreatDoorProg.lean LOADS. Nothing in Lean hashes anything: it is a label: what it is worth is what the hold of that sum in a sandbox is worth. -/
noncomputable def Tryz.pinned : Pinned := { name := "ytflgdeobcgmgnaagreatdoor", sum := "9f64c3a3da6467c93edb260c9d0a94e796e98c9fea240f81c7652f2fb81fbe1b", checked := Tryz.checked }
namespace Rows
def none {H : Type} : Left H := { results := [], args := [] }

/- WHAT THE LISTED PACKAGE-LEVEL VARIABLES READ AS WHEN THE CALL BEGINS. Each datum BY PROGRAM (the guide's laid-datum.mjs) off the statement by which the dump's own 'gosem.cut.vars' lays the variable. In a bare row this is a premise. The card (YtflgdeobcgmgnaaGreatDoorCards.lean) ties it to the program's text. -/
def laid_math_bits_deBruijn32tab {H : Type} : DataW H := .agg [.lit (.int .u8 0), .lit (.int .u8 1), .lit (.int .u8 28), .lit (.int .u8 2), .lit (.int .u8 29), .lit (.int .u8 14), .lit (.int .u8 24), .lit (.int .u8 3), .lit (.int .u8 30), .lit (.int .u8 22), .lit (.int .u8 20), .lit (.int .u8 15), .lit (.int .u8 25), .lit (.int .u8 17), .lit (.int .u8 4), .lit (.int .u8 8), .lit (.int .u8 31), .lit (.int .u8 27), .lit (.int .u8 13), .lit (.int .u8 23), .lit (.int .u8 21), .lit (.int .u8 19), .lit (.int .u8 16), .lit (.int .u8 7), .lit (.int .u8 26), .lit (.int .u8 12), .lit (.int .u8 18), .lit (.int .u8 6), .lit (.int .u8 11), .lit (.int .u8 5), .lit (.int .u8 10), .lit (.int .u8 9)]
def laid_math_bits_deBruijn64tab {H : Type} : DataW H := .agg [.lit (.int .u8 0), .lit (.int .u8 1), .lit (.int .u8 56), .lit (.int .u8 2), .lit (.int .u8 57), .lit (.int .u8 49), .lit (.int .u8 28), .lit (.int .u8 3), .lit (.int .u8 61), .lit (.int .u8 58), .lit (.int .u8 42), .lit (.int .u8 50), .lit (.int .u8 38), .lit (.int .u8 29), .lit (.int .u8 17), .lit (.int .u8 4), .lit (.int .u8 62), .lit (.int .u8 47), .lit (.int .u8 59), .lit (.int .u8 36), .lit (.int .u8 45), .lit (.int .u8 43), .lit (.int .u8 51), .lit (.int .u8 22), .lit (.int .u8 53), .lit (.int .u8 39), .lit (.int .u8 33), .lit (.int .u8 30), .lit (.int .u8 24), .lit (.int .u8 18), .lit (.int .u8 12), .lit (.int .u8 5), .lit (.int .u8 63), .lit (.int .u8 55), .lit (.int .u8 48), .lit (.int .u8 27), .lit (.int .u8 60), .lit (.int .u8 41), .lit (.int .u8 37), .lit (.int .u8 16), .lit (.int .u8 46), .lit (.int .u8 35), .lit (.int .u8 44), .lit (.int .u8 21), .lit (.int .u8 52), .lit (.int .u8 32), .lit (.int .u8 23), .lit (.int .u8 11), .lit (.int .u8 54), .lit (.int .u8 26), .lit (.int .u8 40), .lit (.int .u8 15), .lit (.int .u8 34), .lit (.int .u8 20), .lit (.int .u8 31), .lit (.int .u8 10), .lit (.int .u8 25), .lit (.int .u8 14), .lit (.int .u8 19), .lit (.int .u8 9), .lit (.int .u8 13), .lit (.int .u8 8), .lit (.int .u8 7), .lit (.int .u8 6)]
def laid_internal_strconv_uint64pow10 {H : Type} : DataW H := .agg [.lit (.int .u64 1), .lit (.int .u64 10), .lit (.int .u64 100), .lit (.int .u64 1000), .lit (.int .u64 10000), .lit (.int .u64 100000), .lit (.int .u64 1000000), .lit (.int .u64 10000000), .lit (.int .u64 100000000), .lit (.int .u64 1000000000), .lit (.int .u64 10000000000), .lit (.int .u64 100000000000), .lit (.int .u64 1000000000000), .lit (.int .u64 10000000000000), .lit (.int .u64 100000000000000), .lit (.int .u64 1000000000000000), .lit (.int .u64 10000000000000000), .lit (.int .u64 100000000000000000), .lit (.int .u64 1000000000000000000), .lit (.int .u64 10000000000000000000)]
def laid_strconv_ErrRange {H : Type} : DataW H := .iface "*errors.errorString" (.ptr (.agg [.lit (.string [118, 97, 108, 117, 101, 32, 111, 117, 116, 32, 111, 102, 32, 114, 97, 110, 103, 101])]))
def laid_strconv_ErrSyntax {H : Type} : DataW H := .iface "*errors.errorString" (.ptr (.agg [.lit (.string [105, 110, 118, 97, 108, 105, 100, 32, 115, 121, 110, 116, 97, 120])]))

/-- 'assessorlaw55.BookKeeps': WHATEVER THE INPUT: true; the input reads as it did. -/
def bookKeepsSpec : ChangeSpec := { name := "bookKeeps", fn := fun _ => fun
  | [d1, d2] => { results := [.lit (.bool true)], args := [d1, d2] }
  | _ => none }
def bookKeepsRow : OpenClaim := { program := "ytflgdeobcgmgnaagreatdoor", sum := "9f64c3a3da6467c93edb260c9d0a94e796e98c9fea240f81c7652f2fb81fbe1b", func := "assessor/assessorlaw55.BookKeeps", spec := "bookKeeps", inPlace := ["internal/bytealg.IndexByteString", "internal/bytealg.IndexString", "internal/abi.NoEscape", "internal/bytealg.MakeNoZero"], unfollowed := true, recurses := true, named := ["internal/strconv.uint64pow10", "math/bits.deBruijn32tab", "math/bits.deBruijn64tab", "internal/bytealg.MaxLen"], apart := false, laid := [("math/bits.deBruijn32tab", laid_math_bits_deBruijn32tab), ("math/bits.deBruijn64tab", laid_math_bits_deBruijn64tab), ("internal/strconv.uint64pow10", laid_internal_strconv_uint64pow10)] }
def BookKeepsSaid : Prop := bookKeepsRow.holds Tryz.pinned (OpenSpec.ofChange bookKeepsSpec)

/-- ITS FALSE NEIGHBOUR: 'it returns false'. Refute it at one input. -/
def bookKeepsWrong : ChangeSpec := { name := "bookKeeps", fn := fun _ => fun
  | [d1, d2] => { results := [.lit (.bool false)], args := [d1, d2] }
  | _ => none }
def BookKeepsWrongFalsely : Prop := bookKeepsRow.holds Tryz.pinned (OpenSpec.ofChange bookKeepsWrong)

/-- 'assessorlaw55.BookApplies': WHATEVER THE INPUT: true; the input reads as it did. -/
def bookAppliesSpec : ChangeSpec := { name := "bookApplies", fn := fun _ => fun
  | [d1, d2] => { results := [.lit (.bool true)], args := [d1, d2] }
  | _ => none }
def bookAppliesRow : OpenClaim := { program := "ytflgdeobcgmgnaagreatdoor", sum := "9f64c3a3da6467c93edb260c9d0a94e796e98c9fea240f81c7652f2fb81fbe1b", func := "assessor/assessorlaw55.BookApplies", spec := "bookApplies", inPlace := ["internal/bytealg.IndexByteString", "internal/bytealg.IndexString", "internal/abi.NoEscape", "internal/bytealg.MakeNoZero"], unfollowed := true, recurses := true, named := ["internal/strconv.uint64pow10", "math/bits.deBruijn32tab", "math/bits.deBruijn64tab", "internal/bytealg.MaxLen"], apart := false, laid := [("math/bits.deBruijn32tab", laid_math_bits_deBruijn32tab), ("math/bits.deBruijn64tab", laid_math_bits_deBruijn64tab), ("internal/strconv.uint64pow10", laid_internal_strconv_uint64pow10)] }
def BookAppliesSaid : Prop := bookAppliesRow.holds Tryz.pinned (OpenSpec.ofChange bookAppliesSpec)

/-- ITS FALSE NEIGHBOUR: 'it returns false'. Refute it at one input. -/
def bookAppliesWrong : ChangeSpec := { name := "bookApplies", fn := fun _ => fun
  | [d1, d2] => { results := [.lit (.bool false)], args := [d1, d2] }
  | _ => none }
def BookAppliesWrongFalsely : Prop := bookAppliesRow.holds Tryz.pinned (OpenSpec.ofChange bookAppliesWrong)

/-- 'assessorlaw55.BookTwice': WHATEVER THE INPUT: true; the input reads as it did. -/
def bookTwiceSpec : ChangeSpec := { name := "bookTwice", fn := fun _ => fun
  | [d1, d2] => { results := [.lit (.bool true)], args := [d1, d2] }
  | _ => none }
def bookTwiceRow : OpenClaim := { program := "ytflgdeobcgmgnaagreatdoor", sum := "9f64c3a3da6467c93edb260c9d0a94e796e98c9fea240f81c7652f2fb81fbe1b", func := "assessor/assessorlaw55.BookTwice", spec := "bookTwice", inPlace := ["internal/bytealg.IndexByteString", "internal/bytealg.IndexString", "internal/abi.NoEscape", "internal/bytealg.MakeNoZero"], unfollowed := true, recurses := true, named := ["internal/strconv.uint64pow10", "math/bits.deBruijn32tab", "math/bits.deBruijn64tab", "internal/bytealg.MaxLen"], apart := false, laid := [("math/bits.deBruijn32tab", laid_math_bits_deBruijn32tab), ("math/bits.deBruijn64tab", laid_math_bits_deBruijn64tab), ("internal/strconv.uint64pow10", laid_internal_strconv_uint64pow10)] }
def BookTwiceSaid : Prop := bookTwiceRow.holds Tryz.pinned (OpenSpec.ofChange bookTwiceSpec)

/-- ITS FALSE NEIGHBOUR: 'it returns false'. Refute it at one input. -/
def bookTwiceWrong : ChangeSpec := { name := "bookTwice", fn := fun _ => fun
  | [d1, d2] => { results := [.lit (.bool false)], args := [d1, d2] }
  | _ => none }
def BookTwiceWrongFalsely : Prop := bookTwiceRow.holds Tryz.pinned (OpenSpec.ofChange bookTwiceWrong)

/-- 'assessorlaw55.BookPoints': WHATEVER THE INPUT: true; the input reads as it did. -/
def bookPointsSpec : ChangeSpec := { name := "bookPoints", fn := fun _ => fun
  | [d1, d2, d3, d4] => { results := [.lit (.bool true)], args := [d1, d2, d3, d4] }
  | _ => none }
def bookPointsRow : OpenClaim := { program := "ytflgdeobcgmgnaagreatdoor", sum := "9f64c3a3da6467c93edb260c9d0a94e796e98c9fea240f81c7652f2fb81fbe1b", func := "assessor/assessorlaw55.BookPoints", spec := "bookPoints", inPlace := ["internal/bytealg.IndexByteString", "internal/bytealg.IndexString", "internal/abi.NoEscape", "internal/bytealg.MakeNoZero"], unfollowed := true, recurses := true, named := ["internal/strconv.uint64pow10", "math/bits.deBruijn32tab", "math/bits.deBruijn64tab", "internal/bytealg.MaxLen"], apart := false, laid := [("math/bits.deBruijn32tab", laid_math_bits_deBruijn32tab), ("math/bits.deBruijn64tab", laid_math_bits_deBruijn64tab), ("internal/strconv.uint64pow10", laid_internal_strconv_uint64pow10)] }
def BookPointsSaid : Prop := bookPointsRow.holds Tryz.pinned (OpenSpec.ofChange bookPointsSpec)

/-- ITS FALSE NEIGHBOUR: 'it returns false'. Refute it at one input. -/
def bookPointsWrong : ChangeSpec := { name := "bookPoints", fn := fun _ => fun
  | [d1, d2, d3, d4] => { results := [.lit (.bool false)], args := [d1, d2, d3, d4] }
  | _ => none }
def BookPointsWrongFalsely : Prop := bookPointsRow.holds Tryz.pinned (OpenSpec.ofChange bookPointsWrong)

/-- 'assessorlaw55.BookStudents': WHATEVER THE INPUT: true; the input reads as it did. -/
def bookStudentsSpec : ChangeSpec := { name := "bookStudents", fn := fun _ => fun
  | [d1, d2, d3, d4] => { results := [.lit (.bool true)], args := [d1, d2, d3, d4] }
  | _ => none }
def bookStudentsRow : OpenClaim := { program := "ytflgdeobcgmgnaagreatdoor", sum := "9f64c3a3da6467c93edb260c9d0a94e796e98c9fea240f81c7652f2fb81fbe1b", func := "assessor/assessorlaw55.BookStudents", spec := "bookStudents", inPlace := ["internal/bytealg.IndexByteString", "internal/bytealg.IndexString", "internal/abi.NoEscape", "internal/bytealg.MakeNoZero"], unfollowed := true, recurses := true, named := ["internal/strconv.uint64pow10", "math/bits.deBruijn32tab", "math/bits.deBruijn64tab", "internal/bytealg.MaxLen"], apart := false, laid := [("math/bits.deBruijn32tab", laid_math_bits_deBruijn32tab), ("math/bits.deBruijn64tab", laid_math_bits_deBruijn64tab), ("internal/strconv.uint64pow10", laid_internal_strconv_uint64pow10)] }
def BookStudentsSaid : Prop := bookStudentsRow.holds Tryz.pinned (OpenSpec.ofChange bookStudentsSpec)

/-- ITS FALSE NEIGHBOUR: 'it returns false'. Refute it at one input. -/
def bookStudentsWrong : ChangeSpec := { name := "bookStudents", fn := fun _ => fun
  | [d1, d2, d3, d4] => { results := [.lit (.bool false)], args := [d1, d2, d3, d4] }
  | _ => none }
def BookStudentsWrongFalsely : Prop := bookStudentsRow.holds Tryz.pinned (OpenSpec.ofChange bookStudentsWrong)

/-- 'assessorlaw55.BookViews': WHATEVER THE INPUT: true; the input reads as it did. -/
def bookViewsSpec : ChangeSpec := { name := "bookViews", fn := fun _ => fun
  | [d1, d2, d3, d4, d5] => { results := [.lit (.bool true)], args := [d1, d2, d3, d4, d5] }
  | _ => none }
def bookViewsRow : OpenClaim := { program := "ytflgdeobcgmgnaagreatdoor", sum := "9f64c3a3da6467c93edb260c9d0a94e796e98c9fea240f81c7652f2fb81fbe1b", func := "assessor/assessorlaw55.BookViews", spec := "bookViews", inPlace := ["internal/bytealg.IndexByteString", "internal/bytealg.IndexString", "internal/abi.NoEscape", "internal/bytealg.MakeNoZero"], unfollowed := true, recurses := true, named := ["internal/strconv.uint64pow10", "math/bits.deBruijn32tab", "math/bits.deBruijn64tab", "internal/bytealg.MaxLen"], apart := false, laid := [("math/bits.deBruijn32tab", laid_math_bits_deBruijn32tab), ("math/bits.deBruijn64tab", laid_math_bits_deBruijn64tab), ("internal/strconv.uint64pow10", laid_internal_strconv_uint64pow10)] }
def BookViewsSaid : Prop := bookViewsRow.holds Tryz.pinned (OpenSpec.ofChange bookViewsSpec)

/-- ITS FALSE NEIGHBOUR: 'it returns false'. Refute it at one input. -/
def bookViewsWrong : ChangeSpec := { name := "bookViews", fn := fun _ => fun
  | [d1, d2, d3, d4, d5] => { results := [.lit (.bool false)], args := [d1, d2, d3, d4, d5] }
  | _ => none }
def BookViewsWrongFalsely : Prop := bookViewsRow.holds Tryz.pinned (OpenSpec.ofChange bookViewsWrong)

/-- 'assessorlaw55.BookCodes': WHATEVER THE INPUT: true; the input reads as it did. -/
def bookCodesSpec : ChangeSpec := { name := "bookCodes", fn := fun _ => fun
  | [d1, d2] => { results := [.lit (.bool true)], args := [d1, d2] }
  | _ => none }
def bookCodesRow : OpenClaim := { program := "ytflgdeobcgmgnaagreatdoor", sum := "9f64c3a3da6467c93edb260c9d0a94e796e98c9fea240f81c7652f2fb81fbe1b", func := "assessor/assessorlaw55.BookCodes", spec := "bookCodes", inPlace := ["internal/bytealg.IndexByteString", "internal/bytealg.IndexString", "internal/abi.NoEscape", "internal/bytealg.MakeNoZero"], unfollowed := true, recurses := true, named := ["internal/strconv.uint64pow10", "math/bits.deBruijn32tab", "math/bits.deBruijn64tab", "internal/bytealg.MaxLen", "strconv.ErrSyntax", "strconv.ErrRange"], apart := false, laid := [("math/bits.deBruijn32tab", laid_math_bits_deBruijn32tab), ("math/bits.deBruijn64tab", laid_math_bits_deBruijn64tab), ("internal/strconv.uint64pow10", laid_internal_strconv_uint64pow10), ("strconv.ErrRange", laid_strconv_ErrRange), ("strconv.ErrSyntax", laid_strconv_ErrSyntax)] }
def BookCodesSaid : Prop := bookCodesRow.holds Tryz.pinned (OpenSpec.ofChange bookCodesSpec)

/-- ITS FALSE NEIGHBOUR: 'it returns false'. Refute it at one input. -/
def bookCodesWrong : ChangeSpec := { name := "bookCodes", fn := fun _ => fun
  | [d1, d2] => { results := [.lit (.bool false)], args := [d1, d2] }
  | _ => none }
def BookCodesWrongFalsely : Prop := bookCodesRow.holds Tryz.pinned (OpenSpec.ofChange bookCodesWrong)

/-- 'assessorlaw55.BookReplays': WHATEVER THE INPUT: true; the input reads as it did. -/
def bookReplaysSpec : ChangeSpec := { name := "bookReplays", fn := fun _ => fun
  | [d] => { results := [.lit (.bool true)], args := [d] }
  | _ => none }
def bookReplaysRow : OpenClaim := { program := "ytflgdeobcgmgnaagreatdoor", sum := "9f64c3a3da6467c93edb260c9d0a94e796e98c9fea240f81c7652f2fb81fbe1b", func := "assessor/assessorlaw55.BookReplays", spec := "bookReplays", inPlace := ["internal/bytealg.IndexByteString", "internal/bytealg.IndexString", "internal/abi.NoEscape", "internal/bytealg.MakeNoZero"], unfollowed := true, recurses := true, named := ["internal/strconv.uint64pow10", "math/bits.deBruijn32tab", "math/bits.deBruijn64tab", "internal/bytealg.MaxLen", "strconv.ErrSyntax", "strconv.ErrRange"], apart := false, laid := [("math/bits.deBruijn32tab", laid_math_bits_deBruijn32tab), ("math/bits.deBruijn64tab", laid_math_bits_deBruijn64tab), ("internal/strconv.uint64pow10", laid_internal_strconv_uint64pow10), ("strconv.ErrRange", laid_strconv_ErrRange), ("strconv.ErrSyntax", laid_strconv_ErrSyntax)] }
def BookReplaysSaid : Prop := bookReplaysRow.holds Tryz.pinned (OpenSpec.ofChange bookReplaysSpec)

/-- ITS FALSE NEIGHBOUR: 'it returns false'. Refute it at one input. -/
def bookReplaysWrong : ChangeSpec := { name := "bookReplays", fn := fun _ => fun
  | [d] => { results := [.lit (.bool false)], args := [d] }
  | _ => none }
def BookReplaysWrongFalsely : Prop := bookReplaysRow.holds Tryz.pinned (OpenSpec.ofChange bookReplaysWrong)

/- THE SECOND FORM. 'bulk': how many values and letters a reading holds, each counted each time it is reached (what is shared counts as often as it is met; a slice's spare places count too). A statement '..UptoSaid' is the law's where the arguments, and the package variables that the reading takes, are together of bulk at most 1048576: NARROWER than '..Said'. Prove '..Said' where nothing that the law and all that it calls make is longer than what came in: it says more and counts as full. Else prove '..UptoSaid'. A law counts once. -/
mutual
def uptoBulk {H : Type} : DataW H → Nat
  | .lit (.string bytes) => bytes.length + 1
  | .lit _ => 1
  | .nil => 1
  | .ptr d => uptoBulk d + 1
  | .slice elems spare => uptoBulkAll elems + uptoBulkAll spare + 1
  | .agg parts => uptoBulkAll parts + 1
  | .iface _ d => uptoBulk d + 1
  | .map entries => uptoBulkEntries entries + 1
  | .held _ => 1
def uptoBulkAll {H : Type} : List (DataW H) → Nat
  | [] => 0
  | d :: r => uptoBulk d + uptoBulkAll r
def uptoBulkEntries {H : Type} : List (Lit × DataW H) → Nat
  | [] => 0
  | x :: r => uptoBulkEntry x + uptoBulkEntries r
def uptoBulkEntry {H : Type} : Lit × DataW H → Nat
  | (.string bytes, d) => bytes.length + uptoBulk d + 1
  | (_, d) => uptoBulk d + 1
 end
def uptoSmall : (H : Type) → List (DataW H) → Bool := fun _ ds => decide (uptoBulkAll ds ≤ 1048576)
def OpenSpec.upto (s : _root_.Go.ChangeSpec) : _root_.Go.OpenSpec := { _root_.Go.OpenSpec.ofChange s with cond := some uptoSmall }

/-- 'assessorlaw55.BookKeeps', WHERE WHAT IT READS IS OF BULK AT MOST 1048576: true; the input reads as it did. -/
def bookKeepsUptoRow : OpenClaim := { program := "ytflgdeobcgmgnaagreatdoor", sum := "9f64c3a3da6467c93edb260c9d0a94e796e98c9fea240f81c7652f2fb81fbe1b", func := "assessor/assessorlaw55.BookKeeps", spec := "bookKeeps", inPlace := ["internal/bytealg.IndexByteString", "internal/bytealg.IndexString", "internal/abi.NoEscape", "internal/bytealg.MakeNoZero"], unfollowed := true, recurses := true, named := ["internal/strconv.uint64pow10", "math/bits.deBruijn32tab", "math/bits.deBruijn64tab", "internal/bytealg.MaxLen"], apart := false, laid := [("math/bits.deBruijn32tab", laid_math_bits_deBruijn32tab), ("math/bits.deBruijn64tab", laid_math_bits_deBruijn64tab), ("internal/strconv.uint64pow10", laid_internal_strconv_uint64pow10)], narrowed := true }
def BookKeepsUptoSaid : Prop := bookKeepsUptoRow.holds Tryz.pinned (OpenSpec.upto bookKeepsSpec)

/-- 'assessorlaw55.BookApplies', WHERE WHAT IT READS IS OF BULK AT MOST 1048576: true; the input reads as it did. -/
def bookAppliesUptoRow : OpenClaim := { program := "ytflgdeobcgmgnaagreatdoor", sum := "9f64c3a3da6467c93edb260c9d0a94e796e98c9fea240f81c7652f2fb81fbe1b", func := "assessor/assessorlaw55.BookApplies", spec := "bookApplies", inPlace := ["internal/bytealg.IndexByteString", "internal/bytealg.IndexString", "internal/abi.NoEscape", "internal/bytealg.MakeNoZero"], unfollowed := true, recurses := true, named := ["internal/strconv.uint64pow10", "math/bits.deBruijn32tab", "math/bits.deBruijn64tab", "internal/bytealg.MaxLen"], apart := false, laid := [("math/bits.deBruijn32tab", laid_math_bits_deBruijn32tab), ("math/bits.deBruijn64tab", laid_math_bits_deBruijn64tab), ("internal/strconv.uint64pow10", laid_internal_strconv_uint64pow10)], narrowed := true }
def BookAppliesUptoSaid : Prop := bookAppliesUptoRow.holds Tryz.pinned (OpenSpec.upto bookAppliesSpec)

/-- 'assessorlaw55.BookTwice', WHERE WHAT IT READS IS OF BULK AT MOST 1048576: true; the input reads as it did. -/
def bookTwiceUptoRow : OpenClaim := { program := "ytflgdeobcgmgnaagreatdoor", sum := "9f64c3a3da6467c93edb260c9d0a94e796e98c9fea240f81c7652f2fb81fbe1b", func := "assessor/assessorlaw55.BookTwice", spec := "bookTwice", inPlace := ["internal/bytealg.IndexByteString", "internal/bytealg.IndexString", "internal/abi.NoEscape", "internal/bytealg.MakeNoZero"], unfollowed := true, recurses := true, named := ["internal/strconv.uint64pow10", "math/bits.deBruijn32tab", "math/bits.deBruijn64tab", "internal/bytealg.MaxLen"], apart := false, laid := [("math/bits.deBruijn32tab", laid_math_bits_deBruijn32tab), ("math/bits.deBruijn64tab", laid_math_bits_deBruijn64tab), ("internal/strconv.uint64pow10", laid_internal_strconv_uint64pow10)], narrowed := true }
def BookTwiceUptoSaid : Prop := bookTwiceUptoRow.holds Tryz.pinned (OpenSpec.upto bookTwiceSpec)

/-- 'assessorlaw55.BookPoints', WHERE WHAT IT READS IS OF BULK AT MOST 1048576: true; the input reads as it did. -/
def bookPointsUptoRow : OpenClaim := { program := "ytflgdeobcgmgnaagreatdoor", sum := "9f64c3a3da6467c93edb260c9d0a94e796e98c9fea240f81c7652f2fb81fbe1b", func := "assessor/assessorlaw55.BookPoints", spec := "bookPoints", inPlace := ["internal/bytealg.IndexByteString", "internal/bytealg.IndexString", "internal/abi.NoEscape", "internal/bytealg.MakeNoZero"], unfollowed := true, recurses := true, named := ["internal/strconv.uint64pow10", "math/bits.deBruijn32tab", "math/bits.deBruijn64tab", "internal/bytealg.MaxLen"], apart := false, laid := [("math/bits.deBruijn32tab", laid_math_bits_deBruijn32tab), ("math/bits.deBruijn64tab", laid_math_bits_deBruijn64tab), ("internal/strconv.uint64pow10", laid_internal_strconv_uint64pow10)], narrowed := true }
def BookPointsUptoSaid : Prop := bookPointsUptoRow.holds Tryz.pinned (OpenSpec.upto bookPointsSpec)

/-- 'assessorlaw55.BookStudents', WHERE WHAT IT READS IS OF BULK AT MOST 1048576: true; the input reads as it did. -/
def bookStudentsUptoRow : OpenClaim := { program := "ytflgdeobcgmgnaagreatdoor", sum := "9f64c3a3da6467c93edb260c9d0a94e796e98c9fea240f81c7652f2fb81fbe1b", func := "assessor/assessorlaw55.BookStudents", spec := "bookStudents", inPlace := ["internal/bytealg.IndexByteString", "internal/bytealg.IndexString", "internal/abi.NoEscape", "internal/bytealg.MakeNoZero"], unfollowed := true, recurses := true, named := ["internal/strconv.uint64pow10", "math/bits.deBruijn32tab", "math/bits.deBruijn64tab", "internal/bytealg.MaxLen"], apart := false, laid := [("math/bits.deBruijn32tab", laid_math_bits_deBruijn32tab), ("math/bits.deBruijn64tab", laid_math_bits_deBruijn64tab), ("internal/strconv.uint64pow10", laid_internal_strconv_uint64pow10)], narrowed := true }
def BookStudentsUptoSaid : Prop := bookStudentsUptoRow.holds Tryz.pinned (OpenSpec.upto bookStudentsSpec)

/-- 'assessorlaw55.BookViews', WHERE WHAT IT READS IS OF BULK AT MOST 1048576: true; the input reads as it did. -/
def bookViewsUptoRow : OpenClaim := { program := "ytflgdeobcgmgnaagreatdoor", sum := "9f64c3a3da6467c93edb260c9d0a94e796e98c9fea240f81c7652f2fb81fbe1b", func := "assessor/assessorlaw55.BookViews", spec := "bookViews", inPlace := ["internal/bytealg.IndexByteString", "internal/bytealg.IndexString", "internal/abi.NoEscape", "internal/bytealg.MakeNoZero"], unfollowed := true, recurses := true, named := ["internal/strconv.uint64pow10", "math/bits.deBruijn32tab", "math/bits.deBruijn64tab", "internal/bytealg.MaxLen"], apart := false, laid := [("math/bits.deBruijn32tab", laid_math_bits_deBruijn32tab), ("math/bits.deBruijn64tab", laid_math_bits_deBruijn64tab), ("internal/strconv.uint64pow10", laid_internal_strconv_uint64pow10)], narrowed := true }
def BookViewsUptoSaid : Prop := bookViewsUptoRow.holds Tryz.pinned (OpenSpec.upto bookViewsSpec)

/-- 'assessorlaw55.BookCodes', WHERE WHAT IT READS IS OF BULK AT MOST 1048576: true; the input reads as it did. -/
def bookCodesUptoRow : OpenClaim := { program := "ytflgdeobcgmgnaagreatdoor", sum := "9f64c3a3da6467c93edb260c9d0a94e796e98c9fea240f81c7652f2fb81fbe1b", func := "assessor/assessorlaw55.BookCodes", spec := "bookCodes", inPlace := ["internal/bytealg.IndexByteString", "internal/bytealg.IndexString", "internal/abi.NoEscape", "internal/bytealg.MakeNoZero"], unfollowed := true, recurses := true, named := ["internal/strconv.uint64pow10", "math/bits.deBruijn32tab", "math/bits.deBruijn64tab", "internal/bytealg.MaxLen", "strconv.ErrSyntax", "strconv.ErrRange"], apart := false, laid := [("math/bits.deBruijn32tab", laid_math_bits_deBruijn32tab), ("math/bits.deBruijn64tab", laid_math_bits_deBruijn64tab), ("internal/strconv.uint64pow10", laid_internal_strconv_uint64pow10), ("strconv.ErrRange", laid_strconv_ErrRange), ("strconv.ErrSyntax", laid_strconv_ErrSyntax)], narrowed := true }
def BookCodesUptoSaid : Prop := bookCodesUptoRow.holds Tryz.pinned (OpenSpec.upto bookCodesSpec)

/-- 'assessorlaw55.BookReplays', WHERE WHAT IT READS IS OF BULK AT MOST 1048576: true; the input reads as it did. -/
def bookReplaysUptoRow : OpenClaim := { program := "ytflgdeobcgmgnaagreatdoor", sum := "9f64c3a3da6467c93edb260c9d0a94e796e98c9fea240f81c7652f2fb81fbe1b", func := "assessor/assessorlaw55.BookReplays", spec := "bookReplays", inPlace := ["internal/bytealg.IndexByteString", "internal/bytealg.IndexString", "internal/abi.NoEscape", "internal/bytealg.MakeNoZero"], unfollowed := true, recurses := true, named := ["internal/strconv.uint64pow10", "math/bits.deBruijn32tab", "math/bits.deBruijn64tab", "internal/bytealg.MaxLen", "strconv.ErrSyntax", "strconv.ErrRange"], apart := false, laid := [("math/bits.deBruijn32tab", laid_math_bits_deBruijn32tab), ("math/bits.deBruijn64tab", laid_math_bits_deBruijn64tab), ("internal/strconv.uint64pow10", laid_internal_strconv_uint64pow10), ("strconv.ErrRange", laid_strconv_ErrRange), ("strconv.ErrSyntax", laid_strconv_ErrSyntax)], narrowed := true }
def BookReplaysUptoSaid : Prop := bookReplaysUptoRow.holds Tryz.pinned (OpenSpec.upto bookReplaysSpec)

end Rows
end Go.Proofs.YtflgdeobcgmgnaaGreatDoor

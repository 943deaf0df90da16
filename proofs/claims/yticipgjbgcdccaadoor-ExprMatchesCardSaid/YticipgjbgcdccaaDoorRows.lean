/-
  NARROWER THAN 'FOR EVERY INPUT', by the rows' own cells (each row's printed sentence says how): ExprTexts: laid · ExprPrints: loops, laid · ExprBack: loops, laid · ExprSums: loops, laid · ExprMatches: loops, laid · ExprChecks: loops, laid · ExprShorts: loops, laid · ExprFronts: loops, laid · ExprOwn: loops, laid.
  DERIVED. THE GIVEN ROWS OF THIS SEAT. 9 by the template 'for every input the law returns true; each argument reads behind the call as it read before'; 0 by the template 'total and deterministic' (their statements: YticipgjbgcdccaaDoorTotals.lean).
  GIVEN WITH THE SEED: the statements are not yours to turn. If you find one false, say at which input.
  Laid BY PROGRAM, IN A SANDBOX (cutbox-rows.mjs): the forced cells as the released guide's own fill.sh prints them over the translation 5dbca546b3c7953f… (all of the seat's roots in one cut). By AI agents, Wed Nov 11 2026. No macro, syntax, notation, axiom, sorry.
-/
import Derived.Test.YticipgjbgcdccaaDoorChecked
import GoSem.Claim
import GoSem.ClaimJoined
import GoSem.ClaimMapViews
import Derived.JoinedTies
import Derived.KernelRfl
namespace Go.Proofs.YticipgjbgcdccaaDoor
/- THE CELL 'sum', in the pinned program and in every row, IS THE sha256 OF THE DUMP (.gsa) THAT YticipgjbgcdccaaDoorProg.lean LOADS. Nothing in Lean hashes anything: it is a label: what it is worth is what the hold of that sum in a sandbox is worth. -/
noncomputable def Tryd.pinned : Pinned := { name := "yticipgjbgcdccaadoor", sum := "5dbca546b3c7953f5f5d66fc2d32feec49e03d9afc14cab20f165aed93473aa3", checked := Tryd.checked }
namespace Rows
def none {H : Type} : Left H := { results := [], args := [] }

/- WHAT THE LISTED PACKAGE-LEVEL VARIABLES READ AS WHEN THE CALL BEGINS. Each datum BY PROGRAM (the guide's laid-datum.mjs) off the statement by which the dump's own 'gosem.cut.vars' lays the variable. In a bare row this is a premise. The card (YticipgjbgcdccaaDoorCards.lean) ties it to the program's text. -/
def laid_math_bits_deBruijn32tab {H : Type} : DataW H := .agg [.lit (.int .u8 0), .lit (.int .u8 1), .lit (.int .u8 28), .lit (.int .u8 2), .lit (.int .u8 29), .lit (.int .u8 14), .lit (.int .u8 24), .lit (.int .u8 3), .lit (.int .u8 30), .lit (.int .u8 22), .lit (.int .u8 20), .lit (.int .u8 15), .lit (.int .u8 25), .lit (.int .u8 17), .lit (.int .u8 4), .lit (.int .u8 8), .lit (.int .u8 31), .lit (.int .u8 27), .lit (.int .u8 13), .lit (.int .u8 23), .lit (.int .u8 21), .lit (.int .u8 19), .lit (.int .u8 16), .lit (.int .u8 7), .lit (.int .u8 26), .lit (.int .u8 12), .lit (.int .u8 18), .lit (.int .u8 6), .lit (.int .u8 11), .lit (.int .u8 5), .lit (.int .u8 10), .lit (.int .u8 9)]
def laid_math_bits_deBruijn64tab {H : Type} : DataW H := .agg [.lit (.int .u8 0), .lit (.int .u8 1), .lit (.int .u8 56), .lit (.int .u8 2), .lit (.int .u8 57), .lit (.int .u8 49), .lit (.int .u8 28), .lit (.int .u8 3), .lit (.int .u8 61), .lit (.int .u8 58), .lit (.int .u8 42), .lit (.int .u8 50), .lit (.int .u8 38), .lit (.int .u8 29), .lit (.int .u8 17), .lit (.int .u8 4), .lit (.int .u8 62), .lit (.int .u8 47), .lit (.int .u8 59), .lit (.int .u8 36), .lit (.int .u8 45), .lit (.int .u8 43), .lit (.int .u8 51), .lit (.int .u8 22), .lit (.int .u8 53), .lit (.int .u8 39), .lit (.int .u8 33), .lit (.int .u8 30), .lit (.int .u8 24), .lit (.int .u8 18), .lit (.int .u8 12), .lit (.int .u8 5), .lit (.int .u8 63), .lit (.int .u8 55), .lit (.int .u8 48), .lit (.int .u8 27), .lit (.int .u8 60), .lit (.int .u8 41), .lit (.int .u8 37), .lit (.int .u8 16), .lit (.int .u8 46), .lit (.int .u8 35), .lit (.int .u8 44), .lit (.int .u8 21), .lit (.int .u8 52), .lit (.int .u8 32), .lit (.int .u8 23), .lit (.int .u8 11), .lit (.int .u8 54), .lit (.int .u8 26), .lit (.int .u8 40), .lit (.int .u8 15), .lit (.int .u8 34), .lit (.int .u8 20), .lit (.int .u8 31), .lit (.int .u8 10), .lit (.int .u8 25), .lit (.int .u8 14), .lit (.int .u8 19), .lit (.int .u8 9), .lit (.int .u8 13), .lit (.int .u8 8), .lit (.int .u8 7), .lit (.int .u8 6)]
def laid_internal_strconv_uint64pow10 {H : Type} : DataW H := .agg [.lit (.int .u64 1), .lit (.int .u64 10), .lit (.int .u64 100), .lit (.int .u64 1000), .lit (.int .u64 10000), .lit (.int .u64 100000), .lit (.int .u64 1000000), .lit (.int .u64 10000000), .lit (.int .u64 100000000), .lit (.int .u64 1000000000), .lit (.int .u64 10000000000), .lit (.int .u64 100000000000), .lit (.int .u64 1000000000000), .lit (.int .u64 10000000000000), .lit (.int .u64 100000000000000), .lit (.int .u64 1000000000000000), .lit (.int .u64 10000000000000000), .lit (.int .u64 100000000000000000), .lit (.int .u64 1000000000000000000), .lit (.int .u64 10000000000000000000)]

/-- 'graftlaw2.ExprTexts': WHATEVER THE INPUT: true; the input reads as it did. -/
def exprTextsSpec : ChangeSpec := { name := "exprTexts", fn := fun _ => fun
  | [d] => { results := [.lit (.bool true)], args := [d] }
  | _ => none }
def exprTextsRow : OpenClaim := { program := "yticipgjbgcdccaadoor", sum := "5dbca546b3c7953f5f5d66fc2d32feec49e03d9afc14cab20f165aed93473aa3", func := "graft/graftlaw2.ExprTexts", spec := "exprTexts", unfollowed := true, recurses := true, named := ["internal/strconv.uint64pow10", "math/bits.deBruijn32tab", "math/bits.deBruijn64tab"], apart := false, laid := [("math/bits.deBruijn32tab", laid_math_bits_deBruijn32tab), ("math/bits.deBruijn64tab", laid_math_bits_deBruijn64tab), ("internal/strconv.uint64pow10", laid_internal_strconv_uint64pow10)] }
def ExprTextsSaid : Prop := exprTextsRow.holds Tryd.pinned (OpenSpec.ofChange exprTextsSpec)

/-- ITS FALSE NEIGHBOUR: 'it returns false'. Refute it at one input. -/
def exprTextsWrong : ChangeSpec := { name := "exprTexts", fn := fun _ => fun
  | [d] => { results := [.lit (.bool false)], args := [d] }
  | _ => none }
def ExprTextsWrongFalsely : Prop := exprTextsRow.holds Tryd.pinned (OpenSpec.ofChange exprTextsWrong)

/-- 'graftlaw2.ExprPrints': WHATEVER THE INPUT: true; the input reads as it did. -/
def exprPrintsSpec : ChangeSpec := { name := "exprPrints", fn := fun _ => fun
  | [d] => { results := [.lit (.bool true)], args := [d] }
  | _ => none }
def exprPrintsRow : OpenClaim := { program := "yticipgjbgcdccaadoor", sum := "5dbca546b3c7953f5f5d66fc2d32feec49e03d9afc14cab20f165aed93473aa3", func := "graft/graftlaw2.ExprPrints", spec := "exprPrints", unfollowed := true, recurses := true, named := ["internal/strconv.uint64pow10", "math/bits.deBruijn32tab", "math/bits.deBruijn64tab"], loops := true, apart := false, laid := [("math/bits.deBruijn32tab", laid_math_bits_deBruijn32tab), ("math/bits.deBruijn64tab", laid_math_bits_deBruijn64tab), ("internal/strconv.uint64pow10", laid_internal_strconv_uint64pow10)] }
def ExprPrintsSaid : Prop := exprPrintsRow.holds Tryd.pinned (OpenSpec.ofChange exprPrintsSpec)

/-- ITS FALSE NEIGHBOUR: 'it returns false'. Refute it at one input. -/
def exprPrintsWrong : ChangeSpec := { name := "exprPrints", fn := fun _ => fun
  | [d] => { results := [.lit (.bool false)], args := [d] }
  | _ => none }
def ExprPrintsWrongFalsely : Prop := exprPrintsRow.holds Tryd.pinned (OpenSpec.ofChange exprPrintsWrong)

/-- 'graftlaw2.ExprBack': WHATEVER THE INPUT: true; the input reads as it did. -/
def exprBackSpec : ChangeSpec := { name := "exprBack", fn := fun _ => fun
  | [d1, d2, d3] => { results := [.lit (.bool true)], args := [d1, d2, d3] }
  | _ => none }
def exprBackRow : OpenClaim := { program := "yticipgjbgcdccaadoor", sum := "5dbca546b3c7953f5f5d66fc2d32feec49e03d9afc14cab20f165aed93473aa3", func := "graft/graftlaw2.ExprBack", spec := "exprBack", unfollowed := true, recurses := true, named := ["internal/strconv.uint64pow10", "math/bits.deBruijn32tab", "math/bits.deBruijn64tab"], loops := true, apart := false, laid := [("math/bits.deBruijn32tab", laid_math_bits_deBruijn32tab), ("math/bits.deBruijn64tab", laid_math_bits_deBruijn64tab), ("internal/strconv.uint64pow10", laid_internal_strconv_uint64pow10)] }
def ExprBackSaid : Prop := exprBackRow.holds Tryd.pinned (OpenSpec.ofChange exprBackSpec)

/-- ITS FALSE NEIGHBOUR: 'it returns false'. Refute it at one input. -/
def exprBackWrong : ChangeSpec := { name := "exprBack", fn := fun _ => fun
  | [d1, d2, d3] => { results := [.lit (.bool false)], args := [d1, d2, d3] }
  | _ => none }
def ExprBackWrongFalsely : Prop := exprBackRow.holds Tryd.pinned (OpenSpec.ofChange exprBackWrong)

/-- 'graftlaw2.ExprSums': WHATEVER THE INPUT: true; the input reads as it did. -/
def exprSumsSpec : ChangeSpec := { name := "exprSums", fn := fun _ => fun
  | [d1, d2, d3, d4, d5] => { results := [.lit (.bool true)], args := [d1, d2, d3, d4, d5] }
  | _ => none }
def exprSumsRow : OpenClaim := { program := "yticipgjbgcdccaadoor", sum := "5dbca546b3c7953f5f5d66fc2d32feec49e03d9afc14cab20f165aed93473aa3", func := "graft/graftlaw2.ExprSums", spec := "exprSums", unfollowed := true, recurses := true, named := ["internal/strconv.uint64pow10", "math/bits.deBruijn32tab", "math/bits.deBruijn64tab"], loops := true, apart := false, laid := [("math/bits.deBruijn32tab", laid_math_bits_deBruijn32tab), ("math/bits.deBruijn64tab", laid_math_bits_deBruijn64tab), ("internal/strconv.uint64pow10", laid_internal_strconv_uint64pow10)] }
def ExprSumsSaid : Prop := exprSumsRow.holds Tryd.pinned (OpenSpec.ofChange exprSumsSpec)

/-- ITS FALSE NEIGHBOUR: 'it returns false'. Refute it at one input. -/
def exprSumsWrong : ChangeSpec := { name := "exprSums", fn := fun _ => fun
  | [d1, d2, d3, d4, d5] => { results := [.lit (.bool false)], args := [d1, d2, d3, d4, d5] }
  | _ => none }
def ExprSumsWrongFalsely : Prop := exprSumsRow.holds Tryd.pinned (OpenSpec.ofChange exprSumsWrong)

/-- 'graftlaw2.ExprMatches': WHATEVER THE INPUT: true; the input reads as it did. -/
def exprMatchesSpec : ChangeSpec := { name := "exprMatches", fn := fun _ => fun
  | [d1, d2] => { results := [.lit (.bool true)], args := [d1, d2] }
  | _ => none }
def exprMatchesRow : OpenClaim := { program := "yticipgjbgcdccaadoor", sum := "5dbca546b3c7953f5f5d66fc2d32feec49e03d9afc14cab20f165aed93473aa3", func := "graft/graftlaw2.ExprMatches", spec := "exprMatches", unfollowed := true, recurses := true, named := ["math/bits.deBruijn64tab", "internal/strconv.uint64pow10", "math/bits.deBruijn32tab"], loops := true, apart := false, laid := [("math/bits.deBruijn32tab", laid_math_bits_deBruijn32tab), ("math/bits.deBruijn64tab", laid_math_bits_deBruijn64tab), ("internal/strconv.uint64pow10", laid_internal_strconv_uint64pow10)] }
def ExprMatchesSaid : Prop := exprMatchesRow.holds Tryd.pinned (OpenSpec.ofChange exprMatchesSpec)

/-- ITS FALSE NEIGHBOUR: 'it returns false'. Refute it at one input. -/
def exprMatchesWrong : ChangeSpec := { name := "exprMatches", fn := fun _ => fun
  | [d1, d2] => { results := [.lit (.bool false)], args := [d1, d2] }
  | _ => none }
def ExprMatchesWrongFalsely : Prop := exprMatchesRow.holds Tryd.pinned (OpenSpec.ofChange exprMatchesWrong)

/-- 'graftlaw2.ExprChecks': WHATEVER THE INPUT: true; the input reads as it did. -/
def exprChecksSpec : ChangeSpec := { name := "exprChecks", fn := fun _ => fun
  | [d] => { results := [.lit (.bool true)], args := [d] }
  | _ => none }
def exprChecksRow : OpenClaim := { program := "yticipgjbgcdccaadoor", sum := "5dbca546b3c7953f5f5d66fc2d32feec49e03d9afc14cab20f165aed93473aa3", func := "graft/graftlaw2.ExprChecks", spec := "exprChecks", unfollowed := true, recurses := true, named := ["internal/strconv.uint64pow10", "math/bits.deBruijn32tab", "math/bits.deBruijn64tab"], loops := true, apart := false, laid := [("math/bits.deBruijn32tab", laid_math_bits_deBruijn32tab), ("math/bits.deBruijn64tab", laid_math_bits_deBruijn64tab), ("internal/strconv.uint64pow10", laid_internal_strconv_uint64pow10)] }
def ExprChecksSaid : Prop := exprChecksRow.holds Tryd.pinned (OpenSpec.ofChange exprChecksSpec)

/-- ITS FALSE NEIGHBOUR: 'it returns false'. Refute it at one input. -/
def exprChecksWrong : ChangeSpec := { name := "exprChecks", fn := fun _ => fun
  | [d] => { results := [.lit (.bool false)], args := [d] }
  | _ => none }
def ExprChecksWrongFalsely : Prop := exprChecksRow.holds Tryd.pinned (OpenSpec.ofChange exprChecksWrong)

/-- 'graftlaw2.ExprShorts': WHATEVER THE INPUT: true; the input reads as it did. -/
def exprShortsSpec : ChangeSpec := { name := "exprShorts", fn := fun _ => fun
  | [d] => { results := [.lit (.bool true)], args := [d] }
  | _ => none }
def exprShortsRow : OpenClaim := { program := "yticipgjbgcdccaadoor", sum := "5dbca546b3c7953f5f5d66fc2d32feec49e03d9afc14cab20f165aed93473aa3", func := "graft/graftlaw2.ExprShorts", spec := "exprShorts", inPlace := ["internal/bytealg.MakeNoZero", "internal/bytealg.Compare"], unfollowed := true, recurses := true, named := ["internal/strconv.uint64pow10", "math/bits.deBruijn32tab", "math/bits.deBruijn64tab"], loops := true, apart := false, laid := [("math/bits.deBruijn32tab", laid_math_bits_deBruijn32tab), ("math/bits.deBruijn64tab", laid_math_bits_deBruijn64tab), ("internal/strconv.uint64pow10", laid_internal_strconv_uint64pow10)] }
def ExprShortsSaid : Prop := exprShortsRow.holds Tryd.pinned (OpenSpec.ofChange exprShortsSpec)

/-- ITS FALSE NEIGHBOUR: 'it returns false'. Refute it at one input. -/
def exprShortsWrong : ChangeSpec := { name := "exprShorts", fn := fun _ => fun
  | [d] => { results := [.lit (.bool false)], args := [d] }
  | _ => none }
def ExprShortsWrongFalsely : Prop := exprShortsRow.holds Tryd.pinned (OpenSpec.ofChange exprShortsWrong)

/-- 'graftlaw2.ExprFronts': WHATEVER THE INPUT: true; the input reads as it did. -/
def exprFrontsSpec : ChangeSpec := { name := "exprFronts", fn := fun _ => fun
  | [d1, d2] => { results := [.lit (.bool true)], args := [d1, d2] }
  | _ => none }
def exprFrontsRow : OpenClaim := { program := "yticipgjbgcdccaadoor", sum := "5dbca546b3c7953f5f5d66fc2d32feec49e03d9afc14cab20f165aed93473aa3", func := "graft/graftlaw2.ExprFronts", spec := "exprFronts", inPlace := ["internal/bytealg.MakeNoZero", "internal/bytealg.Compare"], unfollowed := true, recurses := true, named := ["math/bits.deBruijn64tab", "internal/strconv.uint64pow10", "math/bits.deBruijn32tab"], loops := true, apart := false, laid := [("math/bits.deBruijn32tab", laid_math_bits_deBruijn32tab), ("math/bits.deBruijn64tab", laid_math_bits_deBruijn64tab), ("internal/strconv.uint64pow10", laid_internal_strconv_uint64pow10)] }
def ExprFrontsSaid : Prop := exprFrontsRow.holds Tryd.pinned (OpenSpec.ofChange exprFrontsSpec)

/-- ITS FALSE NEIGHBOUR: 'it returns false'. Refute it at one input. -/
def exprFrontsWrong : ChangeSpec := { name := "exprFronts", fn := fun _ => fun
  | [d1, d2] => { results := [.lit (.bool false)], args := [d1, d2] }
  | _ => none }
def ExprFrontsWrongFalsely : Prop := exprFrontsRow.holds Tryd.pinned (OpenSpec.ofChange exprFrontsWrong)

/-- 'graftlaw2.ExprOwn': WHATEVER THE INPUT: true; the input reads as it did. -/
def exprOwnSpec : ChangeSpec := { name := "exprOwn", fn := fun _ => fun
  | [d1, d2] => { results := [.lit (.bool true)], args := [d1, d2] }
  | _ => none }
def exprOwnRow : OpenClaim := { program := "yticipgjbgcdccaadoor", sum := "5dbca546b3c7953f5f5d66fc2d32feec49e03d9afc14cab20f165aed93473aa3", func := "graft/graftlaw2.ExprOwn", spec := "exprOwn", inPlace := ["internal/bytealg.MakeNoZero", "internal/bytealg.Compare"], unfollowed := true, recurses := true, named := ["internal/strconv.uint64pow10", "math/bits.deBruijn32tab", "math/bits.deBruijn64tab"], loops := true, apart := false, laid := [("math/bits.deBruijn32tab", laid_math_bits_deBruijn32tab), ("math/bits.deBruijn64tab", laid_math_bits_deBruijn64tab), ("internal/strconv.uint64pow10", laid_internal_strconv_uint64pow10)] }
def ExprOwnSaid : Prop := exprOwnRow.holds Tryd.pinned (OpenSpec.ofChange exprOwnSpec)

/-- ITS FALSE NEIGHBOUR: 'it returns false'. Refute it at one input. -/
def exprOwnWrong : ChangeSpec := { name := "exprOwn", fn := fun _ => fun
  | [d1, d2] => { results := [.lit (.bool false)], args := [d1, d2] }
  | _ => none }
def ExprOwnWrongFalsely : Prop := exprOwnRow.holds Tryd.pinned (OpenSpec.ofChange exprOwnWrong)

/- THE SECOND FORM. 'bulk': how many values and letters a reading holds, each counted each time it is reached (what is shared counts as often as it is met; a slice's spare places count too). A statement '..UptoSaid' is the law's where the arguments, and the package variables that the reading takes, are together of bulk at most 1048576: NARROWER than '..Said'. Prove '..Said' where nothing that the law and all that it calls make is longer than what came in: it says more and counts as full. Else prove '..UptoSaid'. A law counts once. -/
mutual
def uptoBulk {H : Type} : DataW H → Nat
  | .lit (.string bytes) => bytes.length + 1
  | .lit _ => 1
  | .nil => 1
  | .ptr d => uptoBulk d + 1
  | .slice elems spare => uptoBulkAll elems + uptoBulkAll spare + 1
  | .agg parts => uptoBulkAll parts + 1
  | .iface _ d => uptoBulk d + 1
  | .map entries => uptoBulkEntries entries + 1
  | .held _ => 1
def uptoBulkAll {H : Type} : List (DataW H) → Nat
  | [] => 0
  | d :: r => uptoBulk d + uptoBulkAll r
def uptoBulkEntries {H : Type} : List (Lit × DataW H) → Nat
  | [] => 0
  | x :: r => uptoBulkEntry x + uptoBulkEntries r
def uptoBulkEntry {H : Type} : Lit × DataW H → Nat
  | (.string bytes, d) => bytes.length + uptoBulk d + 1
  | (_, d) => uptoBulk d + 1
 end
def uptoSmall : (H : Type) → List (DataW H) → Bool := fun _ ds => decide (uptoBulkAll ds ≤ 1048576)
def OpenSpec.upto (s : _root_.Go.ChangeSpec) : _root_.Go.OpenSpec := { _root_.Go.OpenSpec.ofChange s with cond := some uptoSmall }

/-- 'graftlaw2.ExprTexts', WHERE WHAT IT READS IS OF BULK AT MOST 1048576: true; the input reads as it did. -/
def exprTextsUptoRow : OpenClaim := { program := "yticipgjbgcdccaadoor", sum := "5dbca546b3c7953f5f5d66fc2d32feec49e03d9afc14cab20f165aed93473aa3", func := "graft/graftlaw2.ExprTexts", spec := "exprTexts", unfollowed := true, recurses := true, named := ["internal/strconv.uint64pow10", "math/bits.deBruijn32tab", "math/bits.deBruijn64tab"], apart := false, laid := [("math/bits.deBruijn32tab", laid_math_bits_deBruijn32tab), ("math/bits.deBruijn64tab", laid_math_bits_deBruijn64tab), ("internal/strconv.uint64pow10", laid_internal_strconv_uint64pow10)], narrowed := true }
def ExprTextsUptoSaid : Prop := exprTextsUptoRow.holds Tryd.pinned (OpenSpec.upto exprTextsSpec)

/-- 'graftlaw2.ExprPrints', WHERE WHAT IT READS IS OF BULK AT MOST 1048576: true; the input reads as it did. -/
def exprPrintsUptoRow : OpenClaim := { program := "yticipgjbgcdccaadoor", sum := "5dbca546b3c7953f5f5d66fc2d32feec49e03d9afc14cab20f165aed93473aa3", func := "graft/graftlaw2.ExprPrints", spec := "exprPrints", unfollowed := true, recurses := true, named := ["internal/strconv.uint64pow10", "math/bits.deBruijn32tab", "math/bits.deBruijn64tab"], loops := true, apart := false, laid := [("math/bits.deBruijn32tab", laid_math_bits_deBruijn32tab), ("math/bits.deBruijn64tab", laid_math_bits_deBruijn64tab), ("internal/strconv.uint64pow10", laid_internal_strconv_uint64pow10)], narrowed := true }
def ExprPrintsUptoSaid : Prop := exprPrintsUptoRow.holds Tryd.pinned (OpenSpec.upto exprPrintsSpec)

/-- 'graftlaw2.ExprBack', WHERE WHAT IT READS IS OF BULK AT MOST 1048576: true; the input reads as it did. -/
def exprBackUptoRow : OpenClaim := { program := "yticipgjbgcdccaadoor", sum := "5dbca546b3c7953f5f5d66fc2d32feec49e03d9afc14cab20f165aed93473aa3", func := "graft/graftlaw2.ExprBack", spec := "exprBack", unfollowed := true, recurses := true, named := ["internal/strconv.uint64pow10", "math/bits.deBruijn32tab", "math/bits.deBruijn64tab"], loops := true, apart := false, laid := [("math/bits.deBruijn32tab", laid_math_bits_deBruijn32tab), ("math/bits.deBruijn64tab", laid_math_bits_deBruijn64tab), ("internal/strconv.uint64pow10", laid_internal_strconv_uint64pow10)], narrowed := true }
def ExprBackUptoSaid : Prop := exprBackUptoRow.holds Tryd.pinned (OpenSpec.upto exprBackSpec)

/-- 'graftlaw2.ExprSums', WHERE WHAT IT READS IS OF BULK AT MOST 1048576: true; the input reads as it did. -/
def exprSumsUptoRow : OpenClaim := { program := "yticipgjbgcdccaadoor", sum := "5dbca546b3c7953f5f5d66fc2d32feec49e03d9afc14cab20f165aed93473aa3", func := "graft/graftlaw2.ExprSums", spec := "exprSums", unfollowed := true, recurses := true, named := ["internal/strconv.uint64pow10", "math/bits.deBruijn32tab", "math/bits.deBruijn64tab"], loops := true, apart := false, laid := [("math/bits.deBruijn32tab", laid_math_bits_deBruijn32tab), ("math/bits.deBruijn64tab", laid_math_bits_deBruijn64tab), ("internal/strconv.uint64pow10", laid_internal_strconv_uint64pow10)], narrowed := true }
def ExprSumsUptoSaid : Prop := exprSumsUptoRow.holds Tryd.pinned (OpenSpec.upto exprSumsSpec)

/-- 'graftlaw2.ExprMatches', WHERE WHAT IT READS IS OF BULK AT MOST 1048576: true; the input reads as it did. -/
def exprMatchesUptoRow : OpenClaim := { program := "yticipgjbgcdccaadoor", sum := "5dbca546b3c7953f5f5d66fc2d32feec49e03d9afc14cab20f165aed93473aa3", func := "graft/graftlaw2.ExprMatches", spec := "exprMatches", unfollowed := true, recurses := true, named := ["math/bits.deBruijn64tab", "internal/strconv.uint64pow10", "math/bits.deBruijn32tab"], loops := true, apart := false, laid := [("math/bits.deBruijn32tab", laid_math_bits_deBruijn32tab), ("math/bits.deBruijn64tab", laid_math_bits_deBruijn64tab), ("internal/strconv.uint64pow10", laid_internal_strconv_uint64pow10)], narrowed := true }
def ExprMatchesUptoSaid : Prop := exprMatchesUptoRow.holds Tryd.pinned (OpenSpec.upto exprMatchesSpec)

/-- 'graftlaw2.ExprChecks', WHERE WHAT IT READS IS OF BULK AT MOST 1048576: true; the input reads as it did. -/
def exprChecksUptoRow : OpenClaim := { program := "yticipgjbgcdccaadoor", sum := "5dbca546b3c7953f5f5d66fc2d32feec49e03d9afc14cab20f165aed93473aa3", func := "graft/graftlaw2.ExprChecks", spec := "exprChecks", unfollowed := true, recurses := true, named := ["internal/strconv.uint64pow10", "math/bits.deBruijn32tab", "math/bits.deBruijn64tab"], loops := true, apart := false, laid := [("math/bits.deBruijn32tab", laid_math_bits_deBruijn32tab), ("math/bits.deBruijn64tab", laid_math_bits_deBruijn64tab), ("internal/strconv.uint64pow10", laid_internal_strconv_uint64pow10)], narrowed := true }
def ExprChecksUptoSaid : Prop := exprChecksUptoRow.holds Tryd.pinned (OpenSpec.upto exprChecksSpec)

/-- 'graftlaw2.ExprShorts', WHERE WHAT IT READS IS OF BULK AT MOST 1048576: true; the input reads as it did. -/
def exprShortsUptoRow : OpenClaim := { program := "yticipgjbgcdccaadoor", sum := "5dbca546b3c7953f5f5d66fc2d32feec49e03d9afc14cab20f165aed93473aa3", func := "graft/graftlaw2.ExprShorts", spec := "exprShorts", inPlace := ["internal/bytealg.MakeNoZero", "internal/bytealg.Compare"], unfollowed := true, recurses := true, named := ["internal/strconv.uint64pow10", "math/bits.deBruijn32tab", "math/bits.deBruijn64tab"], loops := true, apart := false, laid := [("math/bits.deBruijn32tab", laid_math_bits_deBruijn32tab), ("math/bits.deBruijn64tab", laid_math_bits_deBruijn64tab), ("internal/strconv.uint64pow10", laid_internal_strconv_uint64pow10)], narrowed := true }
def ExprShortsUptoSaid : Prop := exprShortsUptoRow.holds Tryd.pinned (OpenSpec.upto exprShortsSpec)

/-- 'graftlaw2.ExprFronts', WHERE WHAT IT READS IS OF BULK AT MOST 1048576: true; the input reads as it did. -/
def exprFrontsUptoRow : OpenClaim := { program := "yticipgjbgcdccaadoor", sum := "5dbca546b3c7953f5f5d66fc2d32feec49e03d9afc14cab20f165aed93473aa3", func := "graft/graftlaw2.ExprFronts", spec := "exprFronts", inPlace := ["internal/bytealg.MakeNoZero", "internal/bytealg.Compare"], unfollowed := true, recurses := true, named := ["math/bits.deBruijn64tab", "internal/strconv.uint64pow10", "math/bits.deBruijn32tab"], loops := true, apart := false, laid := [("math/bits.deBruijn32tab", laid_math_bits_deBruijn32tab), ("math/bits.deBruijn64tab", laid_math_bits_deBruijn64tab), ("internal/strconv.uint64pow10", laid_internal_strconv_uint64pow10)], narrowed := true }
def ExprFrontsUptoSaid : Prop := exprFrontsUptoRow.holds Tryd.pinned (OpenSpec.upto exprFrontsSpec)

/-- 'graftlaw2.ExprOwn', WHERE WHAT IT READS IS OF BULK AT MOST 1048576: true; the input reads as it did. -/
def exprOwnUptoRow : OpenClaim := { program := "yticipgjbgcdccaadoor", sum := "5dbca546b3c7953f5f5d66fc2d32feec49e03d9afc14cab20f165aed93473aa3", func := "graft/graftlaw2.ExprOwn", spec := "exprOwn", inPlace := ["internal/bytealg.MakeNoZero", "internal/bytealg.Compare"], unfollowed := true, recurses := true, named := ["internal/strconv.uint64pow10", "math/bits.deBruijn32tab", "math/bits.deBruijn64tab"], loops := true, apart := false, laid := [("math/bits.deBruijn32tab", laid_math_bits_deBruijn32tab), ("math/bits.deBruijn64tab", laid_math_bits_deBruijn64tab), ("internal/strconv.uint64pow10", laid_internal_strconv_uint64pow10)], narrowed := true }
def ExprOwnUptoSaid : Prop := exprOwnUptoRow.holds Tryd.pinned (OpenSpec.upto exprOwnSpec)

end Rows
end Go.Proofs.YticipgjbgcdccaaDoor

/-
  No cell of these rows narrows 'for every input' (looked for: loops, veiled, ifaces, maps, wideKeys, modest, calm, conditions, laid).
  DERIVED. THE GIVEN ROWS OF THIS SEAT. 6 by the template 'for every input the law returns true; each argument reads behind the call as it read before'; 0 by the template 'total and deterministic' (their statements: YteiflbhpmikniaaTotals.lean).
  GIVEN WITH THE SEED: the statements are not yours to turn. If you find one false, say at which input.
  Laid BY PROGRAM, IN A SANDBOX (cutbox-rows.mjs): the forced cells as the released guide's own fill.sh prints them over the translation 0d4735ca4ad07ce8… (all of the seat's roots in one cut). By AI agents, Wed Nov 11 2026. No macro, syntax, notation, axiom, sorry.
-/
import Derived.Test.YteiflbhpmikniaaChecked
import GoSem.Claim
import GoSem.ClaimJoined
import GoSem.ClaimMapViews
import Derived.JoinedTies
import Derived.KernelRfl
namespace Go.Proofs.Yteiflbhpmikniaa
/- THE CELL 'sum', in the pinned program and in every row, IS THE sha256 OF THE DUMP (.gsa) THAT YteiflbhpmikniaaProg.lean LOADS. Nothing in Lean hashes anything: it is a label: what it is worth is what the hold of that sum in a sandbox is worth. -/
noncomputable def Try.pinned : Pinned := { name := "yteiflbhpmikniaa", sum := "0d4735ca4ad07ce862dd3d6226bec32d1c73f2215fdfd660ad8742d96284b122", checked := Try.checked }
namespace Rows
def none {H : Type} : Left H := { results := [], args := [] }

/-- 'graftlaw2.ExprNames': WHATEVER THE INPUT: true; the input reads as it did. -/
def exprNamesSpec : ChangeSpec := { name := "exprNames", fn := fun _ => fun
  | [] => { results := [.lit (.bool true)], args := [] }
  | _ => none }
def exprNamesRow : OpenClaim := { program := "yteiflbhpmikniaa", sum := "0d4735ca4ad07ce862dd3d6226bec32d1c73f2215fdfd660ad8742d96284b122", func := "graft/graftlaw2.ExprNames", spec := "exprNames", apart := false }
def ExprNamesSaid : Prop := exprNamesRow.holds Try.pinned (OpenSpec.ofChange exprNamesSpec)

/-- ITS FALSE NEIGHBOUR: 'it returns false'. Refute it at one input. -/
def exprNamesWrong : ChangeSpec := { name := "exprNames", fn := fun _ => fun
  | [] => { results := [.lit (.bool false)], args := [] }
  | _ => none }
def ExprNamesWrongFalsely : Prop := exprNamesRow.holds Try.pinned (OpenSpec.ofChange exprNamesWrong)

/-- 'graftlaw3.DfaNames': WHATEVER THE INPUT: true; the input reads as it did. -/
def dfaNamesSpec : ChangeSpec := { name := "dfaNames", fn := fun _ => fun
  | [] => { results := [.lit (.bool true)], args := [] }
  | _ => none }
def dfaNamesRow : OpenClaim := { program := "yteiflbhpmikniaa", sum := "0d4735ca4ad07ce862dd3d6226bec32d1c73f2215fdfd660ad8742d96284b122", func := "graft/graftlaw3.DfaNames", spec := "dfaNames", apart := false }
def DfaNamesSaid : Prop := dfaNamesRow.holds Try.pinned (OpenSpec.ofChange dfaNamesSpec)

/-- ITS FALSE NEIGHBOUR: 'it returns false'. Refute it at one input. -/
def dfaNamesWrong : ChangeSpec := { name := "dfaNames", fn := fun _ => fun
  | [] => { results := [.lit (.bool false)], args := [] }
  | _ => none }
def DfaNamesWrongFalsely : Prop := dfaNamesRow.holds Try.pinned (OpenSpec.ofChange dfaNamesWrong)

/-- 'graftlaw4.ScanNames': WHATEVER THE INPUT: true; the input reads as it did. -/
def scanNamesSpec : ChangeSpec := { name := "scanNames", fn := fun _ => fun
  | [] => { results := [.lit (.bool true)], args := [] }
  | _ => none }
def scanNamesRow : OpenClaim := { program := "yteiflbhpmikniaa", sum := "0d4735ca4ad07ce862dd3d6226bec32d1c73f2215fdfd660ad8742d96284b122", func := "graft/graftlaw4.ScanNames", spec := "scanNames", apart := false }
def ScanNamesSaid : Prop := scanNamesRow.holds Try.pinned (OpenSpec.ofChange scanNamesSpec)

/-- ITS FALSE NEIGHBOUR: 'it returns false'. Refute it at one input. -/
def scanNamesWrong : ChangeSpec := { name := "scanNames", fn := fun _ => fun
  | [] => { results := [.lit (.bool false)], args := [] }
  | _ => none }
def ScanNamesWrongFalsely : Prop := scanNamesRow.holds Try.pinned (OpenSpec.ofChange scanNamesWrong)

/-- 'graftlaw5.RelexNames': WHATEVER THE INPUT: true; the input reads as it did. -/
def relexNamesSpec : ChangeSpec := { name := "relexNames", fn := fun _ => fun
  | [] => { results := [.lit (.bool true)], args := [] }
  | _ => none }
def relexNamesRow : OpenClaim := { program := "yteiflbhpmikniaa", sum := "0d4735ca4ad07ce862dd3d6226bec32d1c73f2215fdfd660ad8742d96284b122", func := "graft/graftlaw5.RelexNames", spec := "relexNames", apart := false }
def RelexNamesSaid : Prop := relexNamesRow.holds Try.pinned (OpenSpec.ofChange relexNamesSpec)

/-- ITS FALSE NEIGHBOUR: 'it returns false'. Refute it at one input. -/
def relexNamesWrong : ChangeSpec := { name := "relexNames", fn := fun _ => fun
  | [] => { results := [.lit (.bool false)], args := [] }
  | _ => none }
def RelexNamesWrongFalsely : Prop := relexNamesRow.holds Try.pinned (OpenSpec.ofChange relexNamesWrong)

/-- 'graftlaw17.LayoutNames': WHATEVER THE INPUT: true; the input reads as it did. -/
def layoutNamesSpec : ChangeSpec := { name := "layoutNames", fn := fun _ => fun
  | [] => { results := [.lit (.bool true)], args := [] }
  | _ => none }
def layoutNamesRow : OpenClaim := { program := "yteiflbhpmikniaa", sum := "0d4735ca4ad07ce862dd3d6226bec32d1c73f2215fdfd660ad8742d96284b122", func := "graft/graftlaw17.LayoutNames", spec := "layoutNames", apart := false }
def LayoutNamesSaid : Prop := layoutNamesRow.holds Try.pinned (OpenSpec.ofChange layoutNamesSpec)

/-- ITS FALSE NEIGHBOUR: 'it returns false'. Refute it at one input. -/
def layoutNamesWrong : ChangeSpec := { name := "layoutNames", fn := fun _ => fun
  | [] => { results := [.lit (.bool false)], args := [] }
  | _ => none }
def LayoutNamesWrongFalsely : Prop := layoutNamesRow.holds Try.pinned (OpenSpec.ofChange layoutNamesWrong)

/-- 'graftlaw6.SpecNames': WHATEVER THE INPUT: true; the input reads as it did. -/
def specNamesSpec : ChangeSpec := { name := "specNames", fn := fun _ => fun
  | [] => { results := [.lit (.bool true)], args := [] }
  | _ => none }
def specNamesRow : OpenClaim := { program := "yteiflbhpmikniaa", sum := "0d4735ca4ad07ce862dd3d6226bec32d1c73f2215fdfd660ad8742d96284b122", func := "graft/graftlaw6.SpecNames", spec := "specNames", apart := false }
def SpecNamesSaid : Prop := specNamesRow.holds Try.pinned (OpenSpec.ofChange specNamesSpec)

/-- ITS FALSE NEIGHBOUR: 'it returns false'. Refute it at one input. -/
def specNamesWrong : ChangeSpec := { name := "specNames", fn := fun _ => fun
  | [] => { results := [.lit (.bool false)], args := [] }
  | _ => none }
def SpecNamesWrongFalsely : Prop := specNamesRow.holds Try.pinned (OpenSpec.ofChange specNamesWrong)

/- THE SECOND FORM. 'bulk': how many values and letters a reading holds, each counted each time it is reached (what is shared counts as often as it is met; a slice's spare places count too). A statement '..UptoSaid' is the law's where the arguments, and the package variables that the reading takes, are together of bulk at most 1048576: NARROWER than '..Said'. Prove '..Said' where nothing that the law and all that it calls make is longer than what came in: it says more and counts as full. Else prove '..UptoSaid'. A law counts once. -/
mutual
def uptoBulk {H : Type} : DataW H → Nat
  | .lit (.string bytes) => bytes.length + 1
  | .lit _ => 1
  | .nil => 1
  | .ptr d => uptoBulk d + 1
  | .slice elems spare => uptoBulkAll elems + uptoBulkAll spare + 1
  | .agg parts => uptoBulkAll parts + 1
  | .iface _ d => uptoBulk d + 1
  | .map entries => uptoBulkEntries entries + 1
  | .held _ => 1
def uptoBulkAll {H : Type} : List (DataW H) → Nat
  | [] => 0
  | d :: r => uptoBulk d + uptoBulkAll r
def uptoBulkEntries {H : Type} : List (Lit × DataW H) → Nat
  | [] => 0
  | x :: r => uptoBulkEntry x + uptoBulkEntries r
def uptoBulkEntry {H : Type} : Lit × DataW H → Nat
  | (.string bytes, d) => bytes.length + uptoBulk d + 1
  | (_, d) => uptoBulk d + 1
 end
def uptoSmall : (H : Type) → List (DataW H) → Bool := fun _ ds => decide (uptoBulkAll ds ≤ 1048576)
def OpenSpec.upto (s : _root_.Go.ChangeSpec) : _root_.Go.OpenSpec := { _root_.Go.OpenSpec.ofChange s with cond := some uptoSmall }

/-- 'graftlaw2.ExprNames', WHERE WHAT IT READS IS OF BULK AT MOST 1048576: true; the input reads as it did. -/
def exprNamesUptoRow : OpenClaim := { program := "yteiflbhpmikniaa", sum := "0d4735ca4ad07ce862dd3d6226bec32d1c73f2215fdfd660ad8742d96284b122", func := "graft/graftlaw2.ExprNames", spec := "exprNames", apart := false, narrowed := true }
def ExprNamesUptoSaid : Prop := exprNamesUptoRow.holds Try.pinned (OpenSpec.upto exprNamesSpec)

/-- 'graftlaw3.DfaNames', WHERE WHAT IT READS IS OF BULK AT MOST 1048576: true; the input reads as it did. -/
def dfaNamesUptoRow : OpenClaim := { program := "yteiflbhpmikniaa", sum := "0d4735ca4ad07ce862dd3d6226bec32d1c73f2215fdfd660ad8742d96284b122", func := "graft/graftlaw3.DfaNames", spec := "dfaNames", apart := false, narrowed := true }
def DfaNamesUptoSaid : Prop := dfaNamesUptoRow.holds Try.pinned (OpenSpec.upto dfaNamesSpec)

/-- 'graftlaw4.ScanNames', WHERE WHAT IT READS IS OF BULK AT MOST 1048576: true; the input reads as it did. -/
def scanNamesUptoRow : OpenClaim := { program := "yteiflbhpmikniaa", sum := "0d4735ca4ad07ce862dd3d6226bec32d1c73f2215fdfd660ad8742d96284b122", func := "graft/graftlaw4.ScanNames", spec := "scanNames", apart := false, narrowed := true }
def ScanNamesUptoSaid : Prop := scanNamesUptoRow.holds Try.pinned (OpenSpec.upto scanNamesSpec)

/-- 'graftlaw5.RelexNames', WHERE WHAT IT READS IS OF BULK AT MOST 1048576: true; the input reads as it did. -/
def relexNamesUptoRow : OpenClaim := { program := "yteiflbhpmikniaa", sum := "0d4735ca4ad07ce862dd3d6226bec32d1c73f2215fdfd660ad8742d96284b122", func := "graft/graftlaw5.RelexNames", spec := "relexNames", apart := false, narrowed := true }
def RelexNamesUptoSaid : Prop := relexNamesUptoRow.holds Try.pinned (OpenSpec.upto relexNamesSpec)

/-- 'graftlaw17.LayoutNames', WHERE WHAT IT READS IS OF BULK AT MOST 1048576: true; the input reads as it did. -/
def layoutNamesUptoRow : OpenClaim := { program := "yteiflbhpmikniaa", sum := "0d4735ca4ad07ce862dd3d6226bec32d1c73f2215fdfd660ad8742d96284b122", func := "graft/graftlaw17.LayoutNames", spec := "layoutNames", apart := false, narrowed := true }
def LayoutNamesUptoSaid : Prop := layoutNamesUptoRow.holds Try.pinned (OpenSpec.upto layoutNamesSpec)

/-- 'graftlaw6.SpecNames', WHERE WHAT IT READS IS OF BULK AT MOST 1048576: true; the input reads as it did. -/
def specNamesUptoRow : OpenClaim := { program := "yteiflbhpmikniaa", sum := "0d4735ca4ad07ce862dd3d6226bec32d1c73f2215fdfd660ad8742d96284b122", func := "graft/graftlaw6.SpecNames", spec := "specNames", apart := false, narrowed := true }
def SpecNamesUptoSaid : Prop := specNamesUptoRow.holds Try.pinned (OpenSpec.upto specNamesSpec)

end Rows
end Go.Proofs.Yteiflbhpmikniaa

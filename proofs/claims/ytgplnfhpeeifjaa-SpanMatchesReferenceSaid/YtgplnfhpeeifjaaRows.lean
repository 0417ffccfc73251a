/-
  No cell of these rows narrows 'for every input' (looked for: loops, veiled, ifaces, maps, wideKeys, modest, calm, conditions, laid).
  DERIVED. THE GIVEN ROWS OF THIS SEAT. 7 by the template 'for every input the law returns true; each argument reads behind the call as it read before'; 0 by the template 'total and deterministic' (their statements: YtgplnfhpeeifjaaTotals.lean).
  GIVEN WITH THE SEED: the statements are not yours to turn. If you find one false, say at which input.
  Laid BY PROGRAM, IN A SANDBOX (cutbox-rows.mjs): the forced cells as the released guide's own fill.sh prints them over the translation 5ee00ddbcfc3dd67… (all of the seat's roots in one cut). By AI agents, Wed Nov 11 2026. No macro, syntax, notation, axiom, sorry.
-/
import Derived.Test.YtgplnfhpeeifjaaChecked
import GoSem.Claim
import GoSem.ClaimJoined
import GoSem.ClaimMapViews
import Derived.JoinedTies
import Derived.KernelRfl
namespace Go.Proofs.Ytgplnfhpeeifjaa
/- THE CELL 'sum', in the pinned program and in every row, IS THE sha256 OF THE DUMP (.gsa) THAT YtgplnfhpeeifjaaProg.lean LOADS. Nothing in Lean hashes anything: it is a label: what it is worth is what the hold of that sum in a sandbox is worth. -/
noncomputable def Try.pinned : Pinned := { name := "ytgplnfhpeeifjaa", sum := "5ee00ddbcfc3dd67898618057850d824b5c33424178185f2d36054b99797b8dd", checked := Try.checked }
namespace Rows
def none {H : Type} : Left H := { results := [], args := [] }

/-- 'wageofficelaw04.SpanMatchesReference': WHATEVER THE INPUT: true; the input reads as it did. -/
def spanMatchesReferenceSpec : ChangeSpec := { name := "spanMatchesReference", fn := fun _ => fun
  | [d1, d2, d3] => { results := [.lit (.bool true)], args := [d1, d2, d3] }
  | _ => none }
def spanMatchesReferenceRow : OpenClaim := { program := "ytgplnfhpeeifjaa", sum := "5ee00ddbcfc3dd67898618057850d824b5c33424178185f2d36054b99797b8dd", func := "wageoffice/wageofficelaw04.SpanMatchesReference", spec := "spanMatchesReference", unfollowed := true, recurses := true, apart := false }
def SpanMatchesReferenceSaid : Prop := spanMatchesReferenceRow.holds Try.pinned (OpenSpec.ofChange spanMatchesReferenceSpec)

/-- ITS FALSE NEIGHBOUR: 'it returns false'. Refute it at one input. -/
def spanMatchesReferenceWrong : ChangeSpec := { name := "spanMatchesReference", fn := fun _ => fun
  | [d1, d2, d3] => { results := [.lit (.bool false)], args := [d1, d2, d3] }
  | _ => none }
def SpanMatchesReferenceWrongFalsely : Prop := spanMatchesReferenceRow.holds Try.pinned (OpenSpec.ofChange spanMatchesReferenceWrong)

/-- 'wageofficelaw04.SpanNormal': WHATEVER THE INPUT: true; the input reads as it did. -/
def spanNormalSpec : ChangeSpec := { name := "spanNormal", fn := fun _ => fun
  | [d1, d2, d3] => { results := [.lit (.bool true)], args := [d1, d2, d3] }
  | _ => none }
def spanNormalRow : OpenClaim := { program := "ytgplnfhpeeifjaa", sum := "5ee00ddbcfc3dd67898618057850d824b5c33424178185f2d36054b99797b8dd", func := "wageoffice/wageofficelaw04.SpanNormal", spec := "spanNormal", unfollowed := true, recurses := true, apart := false }
def SpanNormalSaid : Prop := spanNormalRow.holds Try.pinned (OpenSpec.ofChange spanNormalSpec)

/-- ITS FALSE NEIGHBOUR: 'it returns false'. Refute it at one input. -/
def spanNormalWrong : ChangeSpec := { name := "spanNormal", fn := fun _ => fun
  | [d1, d2, d3] => { results := [.lit (.bool false)], args := [d1, d2, d3] }
  | _ => none }
def SpanNormalWrongFalsely : Prop := spanNormalRow.holds Try.pinned (OpenSpec.ofChange spanNormalWrong)

/-- 'wageofficelaw04.SpanMembership': WHATEVER THE INPUT: true; the input reads as it did. -/
def spanMembershipSpec : ChangeSpec := { name := "spanMembership", fn := fun _ => fun
  | [d1, d2, d3, d4, d5] => { results := [.lit (.bool true)], args := [d1, d2, d3, d4, d5] }
  | _ => none }
def spanMembershipRow : OpenClaim := { program := "ytgplnfhpeeifjaa", sum := "5ee00ddbcfc3dd67898618057850d824b5c33424178185f2d36054b99797b8dd", func := "wageoffice/wageofficelaw04.SpanMembership", spec := "spanMembership", unfollowed := true, recurses := true, apart := false }
def SpanMembershipSaid : Prop := spanMembershipRow.holds Try.pinned (OpenSpec.ofChange spanMembershipSpec)

/-- ITS FALSE NEIGHBOUR: 'it returns false'. Refute it at one input. -/
def spanMembershipWrong : ChangeSpec := { name := "spanMembership", fn := fun _ => fun
  | [d1, d2, d3, d4, d5] => { results := [.lit (.bool false)], args := [d1, d2, d3, d4, d5] }
  | _ => none }
def SpanMembershipWrongFalsely : Prop := spanMembershipRow.holds Try.pinned (OpenSpec.ofChange spanMembershipWrong)

/-- 'wageofficelaw04.SpanAlgebra': WHATEVER THE INPUT: true; the input reads as it did. -/
def spanAlgebraSpec : ChangeSpec := { name := "spanAlgebra", fn := fun _ => fun
  | [d1, d2, d3] => { results := [.lit (.bool true)], args := [d1, d2, d3] }
  | _ => none }
def spanAlgebraRow : OpenClaim := { program := "ytgplnfhpeeifjaa", sum := "5ee00ddbcfc3dd67898618057850d824b5c33424178185f2d36054b99797b8dd", func := "wageoffice/wageofficelaw04.SpanAlgebra", spec := "spanAlgebra", unfollowed := true, recurses := true, apart := false }
def SpanAlgebraSaid : Prop := spanAlgebraRow.holds Try.pinned (OpenSpec.ofChange spanAlgebraSpec)

/-- ITS FALSE NEIGHBOUR: 'it returns false'. Refute it at one input. -/
def spanAlgebraWrong : ChangeSpec := { name := "spanAlgebra", fn := fun _ => fun
  | [d1, d2, d3] => { results := [.lit (.bool false)], args := [d1, d2, d3] }
  | _ => none }
def SpanAlgebraWrongFalsely : Prop := spanAlgebraRow.holds Try.pinned (OpenSpec.ofChange spanAlgebraWrong)

/-- 'wageofficelaw04.SpanSize': WHATEVER THE INPUT: true; the input reads as it did. -/
def spanSizeSpec : ChangeSpec := { name := "spanSize", fn := fun _ => fun
  | [d1, d2] => { results := [.lit (.bool true)], args := [d1, d2] }
  | _ => none }
def spanSizeRow : OpenClaim := { program := "ytgplnfhpeeifjaa", sum := "5ee00ddbcfc3dd67898618057850d824b5c33424178185f2d36054b99797b8dd", func := "wageoffice/wageofficelaw04.SpanSize", spec := "spanSize", unfollowed := true, recurses := true, apart := false }
def SpanSizeSaid : Prop := spanSizeRow.holds Try.pinned (OpenSpec.ofChange spanSizeSpec)

/-- ITS FALSE NEIGHBOUR: 'it returns false'. Refute it at one input. -/
def spanSizeWrong : ChangeSpec := { name := "spanSize", fn := fun _ => fun
  | [d1, d2] => { results := [.lit (.bool false)], args := [d1, d2] }
  | _ => none }
def SpanSizeWrongFalsely : Prop := spanSizeRow.holds Try.pinned (OpenSpec.ofChange spanSizeWrong)

/-- 'wageofficelaw04.SpanShift': WHATEVER THE INPUT: true; the input reads as it did. -/
def spanShiftSpec : ChangeSpec := { name := "spanShift", fn := fun _ => fun
  | [d1, d2, d3] => { results := [.lit (.bool true)], args := [d1, d2, d3] }
  | _ => none }
def spanShiftRow : OpenClaim := { program := "ytgplnfhpeeifjaa", sum := "5ee00ddbcfc3dd67898618057850d824b5c33424178185f2d36054b99797b8dd", func := "wageoffice/wageofficelaw04.SpanShift", spec := "spanShift", unfollowed := true, recurses := true, apart := false }
def SpanShiftSaid : Prop := spanShiftRow.holds Try.pinned (OpenSpec.ofChange spanShiftSpec)

/-- ITS FALSE NEIGHBOUR: 'it returns false'. Refute it at one input. -/
def spanShiftWrong : ChangeSpec := { name := "spanShift", fn := fun _ => fun
  | [d1, d2, d3] => { results := [.lit (.bool false)], args := [d1, d2, d3] }
  | _ => none }
def SpanShiftWrongFalsely : Prop := spanShiftRow.holds Try.pinned (OpenSpec.ofChange spanShiftWrong)

/-- 'wageofficelaw04.SpanParts': WHATEVER THE INPUT: true; the input reads as it did. -/
def spanPartsSpec : ChangeSpec := { name := "spanParts", fn := fun _ => fun
  | [d1, d2, d3, d4] => { results := [.lit (.bool true)], args := [d1, d2, d3, d4] }
  | _ => none }
def spanPartsRow : OpenClaim := { program := "ytgplnfhpeeifjaa", sum := "5ee00ddbcfc3dd67898618057850d824b5c33424178185f2d36054b99797b8dd", func := "wageoffice/wageofficelaw04.SpanParts", spec := "spanParts", unfollowed := true, recurses := true, apart := false }
def SpanPartsSaid : Prop := spanPartsRow.holds Try.pinned (OpenSpec.ofChange spanPartsSpec)

/-- ITS FALSE NEIGHBOUR: 'it returns false'. Refute it at one input. -/
def spanPartsWrong : ChangeSpec := { name := "spanParts", fn := fun _ => fun
  | [d1, d2, d3, d4] => { results := [.lit (.bool false)], args := [d1, d2, d3, d4] }
  | _ => none }
def SpanPartsWrongFalsely : Prop := spanPartsRow.holds Try.pinned (OpenSpec.ofChange spanPartsWrong)

/- THE SECOND FORM. 'bulk': how many values and letters a reading holds, each counted each time it is reached (what is shared counts as often as it is met; a slice's spare places count too). A statement '..UptoSaid' is the law's where the arguments, and the package variables that the reading takes, are together of bulk at most 1048576: NARROWER than '..Said'. Prove '..Said' where nothing that the law and all that it calls make is longer than what came in: it says more and counts as full. Else prove '..UptoSaid'. A law counts once. -/
mutual
def uptoBulk {H : Type} : DataW H → Nat
  | .lit (.string bytes) => bytes.length + 1
  | .lit _ => 1
  | .nil => 1
  | .ptr d => uptoBulk d + 1
  | .slice elems spare => uptoBulkAll elems + uptoBulkAll spare + 1
  | .agg parts => uptoBulkAll parts + 1
  | .iface _ d => uptoBulk d + 1
  | .map entries => uptoBulkEntries entries + 1
  | .held _ => 1
def uptoBulkAll {H : Type} : List (DataW H) → Nat
  | [] => 0
  | d :: r => uptoBulk d + uptoBulkAll r
def uptoBulkEntries {H : Type} : List (Lit × DataW H) → Nat
  | [] => 0
  | x :: r => uptoBulkEntry x + uptoBulkEntries r
def uptoBulkEntry {H : Type} : Lit × DataW H → Nat
  | (.string bytes, d) => bytes.length + uptoBulk d + 1
  | (_, d) => uptoBulk d + 1
 end
def uptoSmall : (H : Type) → List (DataW H) → Bool := fun _ ds => decide (uptoBulkAll ds ≤ 1048576)
def OpenSpec.upto (s : _root_.Go.ChangeSpec) : _root_.Go.OpenSpec := { _root_.Go.OpenSpec.ofChange s with cond := some uptoSmall }

/-- 'wageofficelaw04.SpanMatchesReference', WHERE WHAT IT READS IS OF BULK AT MOST 1048576: true; the input reads as it did. -/
def spanMatchesReferenceUptoRow : OpenClaim := { program := "ytgplnfhpeeifjaa", sum := "5ee00ddbcfc3dd67898618057850d824b5c33424178185f2d36054b99797b8dd", func := "wageoffice/wageofficelaw04.SpanMatchesReference", spec := "spanMatchesReference", unfollowed := true, recurses := true, apart := false, narrowed := true }
def SpanMatchesReferenceUptoSaid : Prop := spanMatchesReferenceUptoRow.holds Try.pinned (OpenSpec.upto spanMatchesReferenceSpec)

/-- 'wageofficelaw04.SpanNormal', WHERE WHAT IT READS IS OF BULK AT MOST 1048576: true; the input reads as it did. -/
def spanNormalUptoRow : OpenClaim := { program := "ytgplnfhpeeifjaa", sum := "5ee00ddbcfc3dd67898618057850d824b5c33424178185f2d36054b99797b8dd", func := "wageoffice/wageofficelaw04.SpanNormal", spec := "spanNormal", unfollowed := true, recurses := true, apart := false, narrowed := true }
def SpanNormalUptoSaid : Prop := spanNormalUptoRow.holds Try.pinned (OpenSpec.upto spanNormalSpec)

/-- 'wageofficelaw04.SpanMembership', WHERE WHAT IT READS IS OF BULK AT MOST 1048576: true; the input reads as it did. -/
def spanMembershipUptoRow : OpenClaim := { program := "ytgplnfhpeeifjaa", sum := "5ee00ddbcfc3dd67898618057850d824b5c33424178185f2d36054b99797b8dd", func := "wageoffice/wageofficelaw04.SpanMembership", spec := "spanMembership", unfollowed := true, recurses := true, apart := false, narrowed := true }
def SpanMembershipUptoSaid : Prop := spanMembershipUptoRow.holds Try.pinned (OpenSpec.upto spanMembershipSpec)

/-- 'wageofficelaw04.SpanAlgebra', WHERE WHAT IT READS IS OF BULK AT MOST 1048576: true; the input reads as it did. -/
def spanAlgebraUptoRow : OpenClaim := { program := "ytgplnfhpeeifjaa", sum := "5ee00ddbcfc3dd67898618057850d824b5c33424178185f2d36054b99797b8dd", func := "wageoffice/wageofficelaw04.SpanAlgebra", spec := "spanAlgebra", unfollowed := true, recurses := true, apart := false, narrowed := true }
def SpanAlgebraUptoSaid : Prop := spanAlgebraUptoRow.holds Try.pinned (OpenSpec.upto spanAlgebraSpec)

/-- 'wageofficelaw04.SpanSize', WHERE WHAT IT READS IS OF BULK AT MOST 1048576: true; the input reads as it did. -/
def spanSizeUptoRow : OpenClaim := { program := "ytgplnfhpeeifjaa", sum := "5ee00ddbcfc3dd67898618057850d824b5c33424178185f2d36054b99797b8dd", func := "wageoffice/wageofficelaw04.SpanSize", spec := "spanSize", unfollowed := true, recurses := true, apart := false, narrowed := true }
def SpanSizeUptoSaid : Prop := spanSizeUptoRow.holds Try.pinned (OpenSpec.upto spanSizeSpec)

/-- 'wageofficelaw04.SpanShift', WHERE WHAT IT READS IS OF BULK AT MOST 1048576: true; the input reads as it did. -/
def spanShiftUptoRow : OpenClaim := { program := "ytgplnfhpeeifjaa", sum := "5ee00ddbcfc3dd67898618057850d824b5c33424178185f2d36054b99797b8dd", func := "wageoffice/wageofficelaw04.SpanShift", spec := "spanShift", unfollowed := true, recurses := true, apart := false, narrowed := true }
def SpanShiftUptoSaid : Prop := spanShiftUptoRow.holds Try.pinned (OpenSpec.upto spanShiftSpec)

/-- 'wageofficelaw04.SpanParts', WHERE WHAT IT READS IS OF BULK AT MOST 1048576: true; the input reads as it did. -/
def spanPartsUptoRow : OpenClaim := { program := "ytgplnfhpeeifjaa", sum := "5ee00ddbcfc3dd67898618057850d824b5c33424178185f2d36054b99797b8dd", func := "wageoffice/wageofficelaw04.SpanParts", spec := "spanParts", unfollowed := true, recurses := true, apart := false, narrowed := true }
def SpanPartsUptoSaid : Prop := spanPartsUptoRow.holds Try.pinned (OpenSpec.upto spanPartsSpec)

end Rows
end Go.Proofs.Ytgplnfhpeeifjaa

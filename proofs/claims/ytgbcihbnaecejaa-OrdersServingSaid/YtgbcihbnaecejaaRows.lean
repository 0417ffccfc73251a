/-
  No cell of these rows narrows 'for every input' (looked for: loops, veiled, ifaces, maps, wideKeys, modest, calm, conditions, laid).
  DERIVED. THE GIVEN ROWS OF THIS SEAT. 7 by the template 'for every input the law returns true; each argument reads behind the call as it read before'; 0 by the template 'total and deterministic' (their statements: YtgbcihbnaecejaaTotals.lean).
  GIVEN WITH THE SEED: the statements are not yours to turn. If you find one false, say at which input.
  Laid BY PROGRAM, IN A SANDBOX (cutbox-rows.mjs): the forced cells as the released guide's own fill.sh prints them over the translation 5b998bd59080253c… (all of the seat's roots in one cut). By AI agents, Wed Nov 11 2026. No macro, syntax, notation, axiom, sorry.
-/
import Derived.Test.YtgbcihbnaecejaaChecked
import GoSem.Claim
import GoSem.ClaimJoined
import GoSem.ClaimMapViews
import Derived.JoinedTies
import Derived.KernelRfl
namespace Go.Proofs.Ytgbcihbnaecejaa
/- THE CELL 'sum', in the pinned program and in every row, IS THE sha256 OF THE DUMP (.gsa) THAT YtgbcihbnaecejaaProg.lean LOADS. Nothing in Lean hashes anything: it is a label: what it is worth is what the hold of that sum in a sandbox is worth. -/
noncomputable def Try.pinned : Pinned := { name := "ytgbcihbnaecejaa", sum := "5b998bd59080253cedded8fe8a7785ad3c0a88f61cca134878e808fd69ff8edf", checked := Try.checked }
namespace Rows
def none {H : Type} : Left H := { results := [], args := [] }

/-- 'wageofficelaw31.OrdersMatchesReference': WHATEVER THE INPUT: true; the input reads as it did. -/
def ordersMatchesReferenceSpec : ChangeSpec := { name := "ordersMatchesReference", fn := fun _ => fun
  | [d1, d2, d3, d4, d5] => { results := [.lit (.bool true)], args := [d1, d2, d3, d4, d5] }
  | _ => none }
def ordersMatchesReferenceRow : OpenClaim := { program := "ytgbcihbnaecejaa", sum := "5b998bd59080253cedded8fe8a7785ad3c0a88f61cca134878e808fd69ff8edf", func := "wageoffice/wageofficelaw31.OrdersMatchesReference", spec := "ordersMatchesReference", unfollowed := true, recurses := true, plainKeys := false, apart := false }
def OrdersMatchesReferenceSaid : Prop := ordersMatchesReferenceRow.holds Try.pinned (OpenSpec.ofChange ordersMatchesReferenceSpec)

/-- ITS FALSE NEIGHBOUR: 'it returns false'. Refute it at one input. -/
def ordersMatchesReferenceWrong : ChangeSpec := { name := "ordersMatchesReference", fn := fun _ => fun
  | [d1, d2, d3, d4, d5] => { results := [.lit (.bool false)], args := [d1, d2, d3, d4, d5] }
  | _ => none }
def OrdersMatchesReferenceWrongFalsely : Prop := ordersMatchesReferenceRow.holds Try.pinned (OpenSpec.ofChange ordersMatchesReferenceWrong)

/-- 'wageofficelaw31.OrdersClocks': WHATEVER THE INPUT: true; the input reads as it did. -/
def ordersClocksSpec : ChangeSpec := { name := "ordersClocks", fn := fun _ => fun
  | [d1, d2, d3, d4, d5] => { results := [.lit (.bool true)], args := [d1, d2, d3, d4, d5] }
  | _ => none }
def ordersClocksRow : OpenClaim := { program := "ytgbcihbnaecejaa", sum := "5b998bd59080253cedded8fe8a7785ad3c0a88f61cca134878e808fd69ff8edf", func := "wageoffice/wageofficelaw31.OrdersClocks", spec := "ordersClocks", unfollowed := true, recurses := true, plainKeys := false, apart := false }
def OrdersClocksSaid : Prop := ordersClocksRow.holds Try.pinned (OpenSpec.ofChange ordersClocksSpec)

/-- ITS FALSE NEIGHBOUR: 'it returns false'. Refute it at one input. -/
def ordersClocksWrong : ChangeSpec := { name := "ordersClocks", fn := fun _ => fun
  | [d1, d2, d3, d4, d5] => { results := [.lit (.bool false)], args := [d1, d2, d3, d4, d5] }
  | _ => none }
def OrdersClocksWrongFalsely : Prop := ordersClocksRow.holds Try.pinned (OpenSpec.ofChange ordersClocksWrong)

/-- 'wageofficelaw31.OrdersNumbers': WHATEVER THE INPUT: true; the input reads as it did. -/
def ordersNumbersSpec : ChangeSpec := { name := "ordersNumbers", fn := fun _ => fun
  | [d1, d2, d3, d4] => { results := [.lit (.bool true)], args := [d1, d2, d3, d4] }
  | _ => none }
def ordersNumbersRow : OpenClaim := { program := "ytgbcihbnaecejaa", sum := "5b998bd59080253cedded8fe8a7785ad3c0a88f61cca134878e808fd69ff8edf", func := "wageoffice/wageofficelaw31.OrdersNumbers", spec := "ordersNumbers", unfollowed := true, recurses := true, plainKeys := false, apart := false }
def OrdersNumbersSaid : Prop := ordersNumbersRow.holds Try.pinned (OpenSpec.ofChange ordersNumbersSpec)

/-- ITS FALSE NEIGHBOUR: 'it returns false'. Refute it at one input. -/
def ordersNumbersWrong : ChangeSpec := { name := "ordersNumbers", fn := fun _ => fun
  | [d1, d2, d3, d4] => { results := [.lit (.bool false)], args := [d1, d2, d3, d4] }
  | _ => none }
def OrdersNumbersWrongFalsely : Prop := ordersNumbersRow.holds Try.pinned (OpenSpec.ofChange ordersNumbersWrong)

/-- 'wageofficelaw31.OrdersServing': WHATEVER THE INPUT: true; the input reads as it did. -/
def ordersServingSpec : ChangeSpec := { name := "ordersServing", fn := fun _ => fun
  | [d1, d2, d3, d4] => { results := [.lit (.bool true)], args := [d1, d2, d3, d4] }
  | _ => none }
def ordersServingRow : OpenClaim := { program := "ytgbcihbnaecejaa", sum := "5b998bd59080253cedded8fe8a7785ad3c0a88f61cca134878e808fd69ff8edf", func := "wageoffice/wageofficelaw31.OrdersServing", spec := "ordersServing", unfollowed := true, recurses := true, plainKeys := false, apart := false }
def OrdersServingSaid : Prop := ordersServingRow.holds Try.pinned (OpenSpec.ofChange ordersServingSpec)

/-- ITS FALSE NEIGHBOUR: 'it returns false'. Refute it at one input. -/
def ordersServingWrong : ChangeSpec := { name := "ordersServing", fn := fun _ => fun
  | [d1, d2, d3, d4] => { results := [.lit (.bool false)], args := [d1, d2, d3, d4] }
  | _ => none }
def OrdersServingWrongFalsely : Prop := ordersServingRow.holds Try.pinned (OpenSpec.ofChange ordersServingWrong)

/-- 'wageofficelaw31.OrdersPersons': WHATEVER THE INPUT: true; the input reads as it did. -/
def ordersPersonsSpec : ChangeSpec := { name := "ordersPersons", fn := fun _ => fun
  | [d1, d2, d3, d4] => { results := [.lit (.bool true)], args := [d1, d2, d3, d4] }
  | _ => none }
def ordersPersonsRow : OpenClaim := { program := "ytgbcihbnaecejaa", sum := "5b998bd59080253cedded8fe8a7785ad3c0a88f61cca134878e808fd69ff8edf", func := "wageoffice/wageofficelaw31.OrdersPersons", spec := "ordersPersons", unfollowed := true, recurses := true, plainKeys := false, apart := false }
def OrdersPersonsSaid : Prop := ordersPersonsRow.holds Try.pinned (OpenSpec.ofChange ordersPersonsSpec)

/-- ITS FALSE NEIGHBOUR: 'it returns false'. Refute it at one input. -/
def ordersPersonsWrong : ChangeSpec := { name := "ordersPersons", fn := fun _ => fun
  | [d1, d2, d3, d4] => { results := [.lit (.bool false)], args := [d1, d2, d3, d4] }
  | _ => none }
def OrdersPersonsWrongFalsely : Prop := ordersPersonsRow.holds Try.pinned (OpenSpec.ofChange ordersPersonsWrong)

/-- 'wageofficelaw31.OrdersRecording': WHATEVER THE INPUT: true; the input reads as it did. -/
def ordersRecordingSpec : ChangeSpec := { name := "ordersRecording", fn := fun _ => fun
  | [d1, d2, d3] => { results := [.lit (.bool true)], args := [d1, d2, d3] }
  | _ => none }
def ordersRecordingRow : OpenClaim := { program := "ytgbcihbnaecejaa", sum := "5b998bd59080253cedded8fe8a7785ad3c0a88f61cca134878e808fd69ff8edf", func := "wageoffice/wageofficelaw31.OrdersRecording", spec := "ordersRecording", unfollowed := true, recurses := true, plainKeys := false, apart := false }
def OrdersRecordingSaid : Prop := ordersRecordingRow.holds Try.pinned (OpenSpec.ofChange ordersRecordingSpec)

/-- ITS FALSE NEIGHBOUR: 'it returns false'. Refute it at one input. -/
def ordersRecordingWrong : ChangeSpec := { name := "ordersRecording", fn := fun _ => fun
  | [d1, d2, d3] => { results := [.lit (.bool false)], args := [d1, d2, d3] }
  | _ => none }
def OrdersRecordingWrongFalsely : Prop := ordersRecordingRow.holds Try.pinned (OpenSpec.ofChange ordersRecordingWrong)

/-- 'wageofficelaw31.OrdersMonths': WHATEVER THE INPUT: true; the input reads as it did. -/
def ordersMonthsSpec : ChangeSpec := { name := "ordersMonths", fn := fun _ => fun
  | [d1, d2, d3, d4, d5] => { results := [.lit (.bool true)], args := [d1, d2, d3, d4, d5] }
  | _ => none }
def ordersMonthsRow : OpenClaim := { program := "ytgbcihbnaecejaa", sum := "5b998bd59080253cedded8fe8a7785ad3c0a88f61cca134878e808fd69ff8edf", func := "wageoffice/wageofficelaw31.OrdersMonths", spec := "ordersMonths", unfollowed := true, recurses := true, plainKeys := false, apart := false }
def OrdersMonthsSaid : Prop := ordersMonthsRow.holds Try.pinned (OpenSpec.ofChange ordersMonthsSpec)

/-- ITS FALSE NEIGHBOUR: 'it returns false'. Refute it at one input. -/
def ordersMonthsWrong : ChangeSpec := { name := "ordersMonths", fn := fun _ => fun
  | [d1, d2, d3, d4, d5] => { results := [.lit (.bool false)], args := [d1, d2, d3, d4, d5] }
  | _ => none }
def OrdersMonthsWrongFalsely : Prop := ordersMonthsRow.holds Try.pinned (OpenSpec.ofChange ordersMonthsWrong)

/- THE SECOND FORM. 'bulk': how many values and letters a reading holds, each counted each time it is reached (what is shared counts as often as it is met; a slice's spare places count too). A statement '..UptoSaid' is the law's where the arguments, and the package variables that the reading takes, are together of bulk at most 1048576: NARROWER than '..Said'. Prove '..Said' where nothing that the law and all that it calls make is longer than what came in: it says more and counts as full. Else prove '..UptoSaid'. A law counts once. -/
mutual
def uptoBulk {H : Type} : DataW H → Nat
  | .lit (.string bytes) => bytes.length + 1
  | .lit _ => 1
  | .nil => 1
  | .ptr d => uptoBulk d + 1
  | .slice elems spare => uptoBulkAll elems + uptoBulkAll spare + 1
  | .agg parts => uptoBulkAll parts + 1
  | .iface _ d => uptoBulk d + 1
  | .map entries => uptoBulkEntries entries + 1
  | .held _ => 1
def uptoBulkAll {H : Type} : List (DataW H) → Nat
  | [] => 0
  | d :: r => uptoBulk d + uptoBulkAll r
def uptoBulkEntries {H : Type} : List (Lit × DataW H) → Nat
  | [] => 0
  | x :: r => uptoBulkEntry x + uptoBulkEntries r
def uptoBulkEntry {H : Type} : Lit × DataW H → Nat
  | (.string bytes, d) => bytes.length + uptoBulk d + 1
  | (_, d) => uptoBulk d + 1
 end
def uptoSmall : (H : Type) → List (DataW H) → Bool := fun _ ds => decide (uptoBulkAll ds ≤ 1048576)
def OpenSpec.upto (s : _root_.Go.ChangeSpec) : _root_.Go.OpenSpec := { _root_.Go.OpenSpec.ofChange s with cond := some uptoSmall }

/-- 'wageofficelaw31.OrdersMatchesReference', WHERE WHAT IT READS IS OF BULK AT MOST 1048576: true; the input reads as it did. -/
def ordersMatchesReferenceUptoRow : OpenClaim := { program := "ytgbcihbnaecejaa", sum := "5b998bd59080253cedded8fe8a7785ad3c0a88f61cca134878e808fd69ff8edf", func := "wageoffice/wageofficelaw31.OrdersMatchesReference", spec := "ordersMatchesReference", unfollowed := true, recurses := true, plainKeys := false, apart := false, narrowed := true }
def OrdersMatchesReferenceUptoSaid : Prop := ordersMatchesReferenceUptoRow.holds Try.pinned (OpenSpec.upto ordersMatchesReferenceSpec)

/-- 'wageofficelaw31.OrdersClocks', WHERE WHAT IT READS IS OF BULK AT MOST 1048576: true; the input reads as it did. -/
def ordersClocksUptoRow : OpenClaim := { program := "ytgbcihbnaecejaa", sum := "5b998bd59080253cedded8fe8a7785ad3c0a88f61cca134878e808fd69ff8edf", func := "wageoffice/wageofficelaw31.OrdersClocks", spec := "ordersClocks", unfollowed := true, recurses := true, plainKeys := false, apart := false, narrowed := true }
def OrdersClocksUptoSaid : Prop := ordersClocksUptoRow.holds Try.pinned (OpenSpec.upto ordersClocksSpec)

/-- 'wageofficelaw31.OrdersNumbers', WHERE WHAT IT READS IS OF BULK AT MOST 1048576: true; the input reads as it did. -/
def ordersNumbersUptoRow : OpenClaim := { program := "ytgbcihbnaecejaa", sum := "5b998bd59080253cedded8fe8a7785ad3c0a88f61cca134878e808fd69ff8edf", func := "wageoffice/wageofficelaw31.OrdersNumbers", spec := "ordersNumbers", unfollowed := true, recurses := true, plainKeys := false, apart := false, narrowed := true }
def OrdersNumbersUptoSaid : Prop := ordersNumbersUptoRow.holds Try.pinned (OpenSpec.upto ordersNumbersSpec)

/-- 'wageofficelaw31.OrdersServing', WHERE WHAT IT READS IS OF BULK AT MOST 1048576: true; the input reads as it did. -/
def ordersServingUptoRow : OpenClaim := { program := "ytgbcihbnaecejaa", sum := "5b998bd59080253cedded8fe8a7785ad3c0a88f61cca134878e808fd69ff8edf", func := "wageoffice/wageofficelaw31.OrdersServing", spec := "ordersServing", unfollowed := true, recurses := true, plainKeys := false, apart := false, narrowed := true }
def OrdersServingUptoSaid : Prop := ordersServingUptoRow.holds Try.pinned (OpenSpec.upto ordersServingSpec)

/-- 'wageofficelaw31.OrdersPersons', WHERE WHAT IT READS IS OF BULK AT MOST 1048576: true; the input reads as it did. -/
def ordersPersonsUptoRow : OpenClaim := { program := "ytgbcihbnaecejaa", sum := "5b998bd59080253cedded8fe8a7785ad3c0a88f61cca134878e808fd69ff8edf", func := "wageoffice/wageofficelaw31.OrdersPersons", spec := "ordersPersons", unfollowed := true, recurses := true, plainKeys := false, apart := false, narrowed := true }
def OrdersPersonsUptoSaid : Prop := ordersPersonsUptoRow.holds Try.pinned (OpenSpec.upto ordersPersonsSpec)

/-- 'wageofficelaw31.OrdersRecording', WHERE WHAT IT READS IS OF BULK AT MOST 1048576: true; the input reads as it did. -/
def ordersRecordingUptoRow : OpenClaim := { program := "ytgbcihbnaecejaa", sum := "5b998bd59080253cedded8fe8a7785ad3c0a88f61cca134878e808fd69ff8edf", func := "wageoffice/wageofficelaw31.OrdersRecording", spec := "ordersRecording", unfollowed := true, recurses := true, plainKeys := false, apart := false, narrowed := true }
def OrdersRecordingUptoSaid : Prop := ordersRecordingUptoRow.holds Try.pinned (OpenSpec.upto ordersRecordingSpec)

/-- 'wageofficelaw31.OrdersMonths', WHERE WHAT IT READS IS OF BULK AT MOST 1048576: true; the input reads as it did. -/
def ordersMonthsUptoRow : OpenClaim := { program := "ytgbcihbnaecejaa", sum := "5b998bd59080253cedded8fe8a7785ad3c0a88f61cca134878e808fd69ff8edf", func := "wageoffice/wageofficelaw31.OrdersMonths", spec := "ordersMonths", unfollowed := true, recurses := true, plainKeys := false, apart := false, narrowed := true }
def OrdersMonthsUptoSaid : Prop := ordersMonthsUptoRow.holds Try.pinned (OpenSpec.upto ordersMonthsSpec)

end Rows
end Go.Proofs.Ytgbcihbnaecejaa

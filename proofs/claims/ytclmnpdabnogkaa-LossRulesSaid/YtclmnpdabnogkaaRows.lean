/-
  No cell of these rows narrows 'for every input' (looked for: loops, veiled, ifaces, maps, wideKeys, modest, calm, conditions, laid).
  DERIVED. THE GIVEN ROWS OF THIS SEAT. 5 by the template 'for every input the law returns true; each argument reads behind the call as it read before'; 0 by the template 'total and deterministic' (their statements: YtclmnpdabnogkaaTotals.lean).
  GIVEN WITH THE SEED: the statements are not yours to turn. If you find one false, say at which input.
  Laid BY PROGRAM, IN A SANDBOX (cutbox-rows.mjs): the forced cells as the released guide's own fill.sh prints them over the translation 71fe1ef93c37e210… (all of the seat's roots in one cut). By AI agents, Wed Nov 11 2026. No macro, syntax, notation, axiom, sorry.
-/
import Derived.Test.YtclmnpdabnogkaaChecked
import GoSem.Claim
import GoSem.ClaimJoined
import GoSem.ClaimMapViews
import Derived.JoinedTies
import Derived.KernelRfl
namespace Go.Proofs.Ytclmnpdabnogkaa
/- THE CELL 'sum', in the pinned program and in every row, IS THE sha256 OF THE DUMP (.gsa) THAT YtclmnpdabnogkaaProg.lean LOADS. Nothing in Lean hashes anything: it is a label: what it is worth is what the hold of that sum in a sandbox is worth. -/
noncomputable def Try.pinned : Pinned := { name := "ytclmnpdabnogkaa", sum := "71fe1ef93c37e210e5779daff31118bf612bbf718be33b0318e81aaa1d465a75", checked := Try.checked }
namespace Rows
def none {H : Type} : Left H := { results := [], args := [] }

/-- 'binnaclelaw24.EventShapes': WHATEVER THE INPUT: true; the input reads as it did. -/
def eventShapesSpec : ChangeSpec := { name := "eventShapes", fn := fun _ => fun
  | [d1, d2] => { results := [.lit (.bool true)], args := [d1, d2] }
  | _ => none }
def eventShapesRow : OpenClaim := { program := "ytclmnpdabnogkaa", sum := "71fe1ef93c37e210e5779daff31118bf612bbf718be33b0318e81aaa1d465a75", func := "binnacle/binnaclelaw24.EventShapes", spec := "eventShapes", apart := false }
def EventShapesSaid : Prop := eventShapesRow.holds Try.pinned (OpenSpec.ofChange eventShapesSpec)

/-- ITS FALSE NEIGHBOUR: 'it returns false'. Refute it at one input. -/
def eventShapesWrong : ChangeSpec := { name := "eventShapes", fn := fun _ => fun
  | [d1, d2] => { results := [.lit (.bool false)], args := [d1, d2] }
  | _ => none }
def EventShapesWrongFalsely : Prop := eventShapesRow.holds Try.pinned (OpenSpec.ofChange eventShapesWrong)

/-- 'binnaclelaw24.EventSame': WHATEVER THE INPUT: true; the input reads as it did. -/
def eventSameSpec : ChangeSpec := { name := "eventSame", fn := fun _ => fun
  | [d1, d2, d3, d4] => { results := [.lit (.bool true)], args := [d1, d2, d3, d4] }
  | _ => none }
def eventSameRow : OpenClaim := { program := "ytclmnpdabnogkaa", sum := "71fe1ef93c37e210e5779daff31118bf612bbf718be33b0318e81aaa1d465a75", func := "binnacle/binnaclelaw24.EventSame", spec := "eventSame", apart := false }
def EventSameSaid : Prop := eventSameRow.holds Try.pinned (OpenSpec.ofChange eventSameSpec)

/-- ITS FALSE NEIGHBOUR: 'it returns false'. Refute it at one input. -/
def eventSameWrong : ChangeSpec := { name := "eventSame", fn := fun _ => fun
  | [d1, d2, d3, d4] => { results := [.lit (.bool false)], args := [d1, d2, d3, d4] }
  | _ => none }
def EventSameWrongFalsely : Prop := eventSameRow.holds Try.pinned (OpenSpec.ofChange eventSameWrong)

/-- 'binnaclelaw24.EventChecks': WHATEVER THE INPUT: true; the input reads as it did. -/
def eventChecksSpec : ChangeSpec := { name := "eventChecks", fn := fun _ => fun
  | [d1, d2] => { results := [.lit (.bool true)], args := [d1, d2] }
  | _ => none }
def eventChecksRow : OpenClaim := { program := "ytclmnpdabnogkaa", sum := "71fe1ef93c37e210e5779daff31118bf612bbf718be33b0318e81aaa1d465a75", func := "binnacle/binnaclelaw24.EventChecks", spec := "eventChecks", apart := false }
def EventChecksSaid : Prop := eventChecksRow.holds Try.pinned (OpenSpec.ofChange eventChecksSpec)

/-- ITS FALSE NEIGHBOUR: 'it returns false'. Refute it at one input. -/
def eventChecksWrong : ChangeSpec := { name := "eventChecks", fn := fun _ => fun
  | [d1, d2] => { results := [.lit (.bool false)], args := [d1, d2] }
  | _ => none }
def EventChecksWrongFalsely : Prop := eventChecksRow.holds Try.pinned (OpenSpec.ofChange eventChecksWrong)

/-- 'binnaclelaw19.LossRules': WHATEVER THE INPUT: true; the input reads as it did. -/
def lossRulesSpec : ChangeSpec := { name := "lossRules", fn := fun _ => fun
  | [d1, d2, d3] => { results := [.lit (.bool true)], args := [d1, d2, d3] }
  | _ => none }
def lossRulesRow : OpenClaim := { program := "ytclmnpdabnogkaa", sum := "71fe1ef93c37e210e5779daff31118bf612bbf718be33b0318e81aaa1d465a75", func := "binnacle/binnaclelaw19.LossRules", spec := "lossRules", unfollowed := true, recurses := true, apart := false }
def LossRulesSaid : Prop := lossRulesRow.holds Try.pinned (OpenSpec.ofChange lossRulesSpec)

/-- ITS FALSE NEIGHBOUR: 'it returns false'. Refute it at one input. -/
def lossRulesWrong : ChangeSpec := { name := "lossRules", fn := fun _ => fun
  | [d1, d2, d3] => { results := [.lit (.bool false)], args := [d1, d2, d3] }
  | _ => none }
def LossRulesWrongFalsely : Prop := lossRulesRow.holds Try.pinned (OpenSpec.ofChange lossRulesWrong)

/-- 'binnaclelaw19.LossTimes': WHATEVER THE INPUT: true; the input reads as it did. -/
def lossTimesSpec : ChangeSpec := { name := "lossTimes", fn := fun _ => fun
  | [d1, d2, d3, d4] => { results := [.lit (.bool true)], args := [d1, d2, d3, d4] }
  | _ => none }
def lossTimesRow : OpenClaim := { program := "ytclmnpdabnogkaa", sum := "71fe1ef93c37e210e5779daff31118bf612bbf718be33b0318e81aaa1d465a75", func := "binnacle/binnaclelaw19.LossTimes", spec := "lossTimes", unfollowed := true, recurses := true, apart := false }
def LossTimesSaid : Prop := lossTimesRow.holds Try.pinned (OpenSpec.ofChange lossTimesSpec)

/-- ITS FALSE NEIGHBOUR: 'it returns false'. Refute it at one input. -/
def lossTimesWrong : ChangeSpec := { name := "lossTimes", fn := fun _ => fun
  | [d1, d2, d3, d4] => { results := [.lit (.bool false)], args := [d1, d2, d3, d4] }
  | _ => none }
def LossTimesWrongFalsely : Prop := lossTimesRow.holds Try.pinned (OpenSpec.ofChange lossTimesWrong)

/- THE SECOND FORM. 'bulk': how many values and letters a reading holds, each counted each time it is reached (what is shared counts as often as it is met; a slice's spare places count too). A statement '..UptoSaid' is the law's where the arguments, and the package variables that the reading takes, are together of bulk at most 1048576: NARROWER than '..Said'. Prove '..Said' where nothing that the law and all that it calls make is longer than what came in: it says more and counts as full. Else prove '..UptoSaid'. A law counts once. -/
mutual
def uptoBulk {H : Type} : DataW H → Nat
  | .lit (.string bytes) => bytes.length + 1
  | .lit _ => 1
  | .nil => 1
  | .ptr d => uptoBulk d + 1
  | .slice elems spare => uptoBulkAll elems + uptoBulkAll spare + 1
  | .agg parts => uptoBulkAll parts + 1
  | .iface _ d => uptoBulk d + 1
  | .map entries => uptoBulkEntries entries + 1
  | .held _ => 1
def uptoBulkAll {H : Type} : List (DataW H) → Nat
  | [] => 0
  | d :: r => uptoBulk d + uptoBulkAll r
def uptoBulkEntries {H : Type} : List (Lit × DataW H) → Nat
  | [] => 0
  | x :: r => uptoBulkEntry x + uptoBulkEntries r
def uptoBulkEntry {H : Type} : Lit × DataW H → Nat
  | (.string bytes, d) => bytes.length + uptoBulk d + 1
  | (_, d) => uptoBulk d + 1
 end
def uptoSmall : (H : Type) → List (DataW H) → Bool := fun _ ds => decide (uptoBulkAll ds ≤ 1048576)
def OpenSpec.upto (s : _root_.Go.ChangeSpec) : _root_.Go.OpenSpec := { _root_.Go.OpenSpec.ofChange s with cond := some uptoSmall }

/-- 'binnaclelaw24.EventShapes', WHERE WHAT IT READS IS OF BULK AT MOST 1048576: true; the input reads as it did. -/
def eventShapesUptoRow : OpenClaim := { program := "ytclmnpdabnogkaa", sum := "71fe1ef93c37e210e5779daff31118bf612bbf718be33b0318e81aaa1d465a75", func := "binnacle/binnaclelaw24.EventShapes", spec := "eventShapes", apart := false, narrowed := true }
def EventShapesUptoSaid : Prop := eventShapesUptoRow.holds Try.pinned (OpenSpec.upto eventShapesSpec)

/-- 'binnaclelaw24.EventSame', WHERE WHAT IT READS IS OF BULK AT MOST 1048576: true; the input reads as it did. -/
def eventSameUptoRow : OpenClaim := { program := "ytclmnpdabnogkaa", sum := "71fe1ef93c37e210e5779daff31118bf612bbf718be33b0318e81aaa1d465a75", func := "binnacle/binnaclelaw24.EventSame", spec := "eventSame", apart := false, narrowed := true }
def EventSameUptoSaid : Prop := eventSameUptoRow.holds Try.pinned (OpenSpec.upto eventSameSpec)

/-- 'binnaclelaw24.EventChecks', WHERE WHAT IT READS IS OF BULK AT MOST 1048576: true; the input reads as it did. -/
def eventChecksUptoRow : OpenClaim := { program := "ytclmnpdabnogkaa", sum := "71fe1ef93c37e210e5779daff31118bf612bbf718be33b0318e81aaa1d465a75", func := "binnacle/binnaclelaw24.EventChecks", spec := "eventChecks", apart := false, narrowed := true }
def EventChecksUptoSaid : Prop := eventChecksUptoRow.holds Try.pinned (OpenSpec.upto eventChecksSpec)

/-- 'binnaclelaw19.LossRules', WHERE WHAT IT READS IS OF BULK AT MOST 1048576: true; the input reads as it did. -/
def lossRulesUptoRow : OpenClaim := { program := "ytclmnpdabnogkaa", sum := "71fe1ef93c37e210e5779daff31118bf612bbf718be33b0318e81aaa1d465a75", func := "binnacle/binnaclelaw19.LossRules", spec := "lossRules", unfollowed := true, recurses := true, apart := false, narrowed := true }
def LossRulesUptoSaid : Prop := lossRulesUptoRow.holds Try.pinned (OpenSpec.upto lossRulesSpec)

/-- 'binnaclelaw19.LossTimes', WHERE WHAT IT READS IS OF BULK AT MOST 1048576: true; the input reads as it did. -/
def lossTimesUptoRow : OpenClaim := { program := "ytclmnpdabnogkaa", sum := "71fe1ef93c37e210e5779daff31118bf612bbf718be33b0318e81aaa1d465a75", func := "binnacle/binnaclelaw19.LossTimes", spec := "lossTimes", unfollowed := true, recurses := true, apart := false, narrowed := true }
def LossTimesUptoSaid : Prop := lossTimesUptoRow.holds Try.pinned (OpenSpec.upto lossTimesSpec)

end Rows
end Go.Proofs.Ytclmnpdabnogkaa

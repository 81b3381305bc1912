/-
  No cell of these rows narrows 'for every input' (looked for: loops, veiled, ifaces, maps, wideKeys, modest, calm, conditions, laid).
  DERIVED. THE GIVEN ROWS OF THIS SEAT. 10 by the template 'for every input the law returns true; each argument reads behind the call as it read before'; 0 by the template 'total and deterministic' (their statements: YtloiihbhpmmaiaaTotals.lean).
  GIVEN WITH THE SEED: the statements are not yours to turn. If you find one false, say at which input.
  Laid BY PROGRAM, IN A SANDBOX (cutbox-rows.mjs): the forced cells as the released guide's own fill.sh prints them over the translation 41a2b58c4a5b6bb6… (all of the seat's roots in one cut). By AI agents, Wed Nov 11 2026. No macro, syntax, notation, axiom, sorry.
-/
import Derived.Test.YtloiihbhpmmaiaaChecked
import GoSem.Claim
import GoSem.ClaimJoined
import GoSem.ClaimMapViews
import Derived.JoinedTies
import Derived.KernelRfl
namespace Go.Proofs.Ytloiihbhpmmaiaa
/- THE CELL 'sum', in the pinned program and in every row, IS THE sha256 OF THE DUMP (.gsa) THAT YtloiihbhpmmaiaaProg.lean LOADS. Nothing in Lean hashes anything: it is a label: what it is worth is what the hold of that sum in a sandbox is worth. -/
noncomputable def Try.pinned : Pinned := { name := "ytloiihbhpmmaiaa", sum := "41a2b58c4a5b6bb6d18e7d70fe64c5493d8727451e6e07c76429593eadde9439", checked := Try.checked }
namespace Rows
def none {H : Type} : Left H := { results := [], args := [] }

/-- 'binnaclelaw17.RttSame': WHATEVER THE INPUT: true; the input reads as it did. -/
def rttSameSpec : ChangeSpec := { name := "rttSame", fn := fun _ => fun
  | [d1, d2] => { results := [.lit (.bool true)], args := [d1, d2] }
  | _ => none }
def rttSameRow : OpenClaim := { program := "ytloiihbhpmmaiaa", sum := "41a2b58c4a5b6bb6d18e7d70fe64c5493d8727451e6e07c76429593eadde9439", func := "binnacle/binnaclelaw17.RttSame", spec := "rttSame", apart := false }
def RttSameSaid : Prop := rttSameRow.holds Try.pinned (OpenSpec.ofChange rttSameSpec)

/-- ITS FALSE NEIGHBOUR: 'it returns false'. Refute it at one input. -/
def rttSameWrong : ChangeSpec := { name := "rttSame", fn := fun _ => fun
  | [d1, d2] => { results := [.lit (.bool false)], args := [d1, d2] }
  | _ => none }
def RttSameWrongFalsely : Prop := rttSameRow.holds Try.pinned (OpenSpec.ofChange rttSameWrong)

/-- 'binnaclelaw02.PnumWholes': WHATEVER THE INPUT: true; the input reads as it did. -/
def pnumWholesSpec : ChangeSpec := { name := "pnumWholes", fn := fun _ => fun
  | [d1, d2, d3] => { results := [.lit (.bool true)], args := [d1, d2, d3] }
  | _ => none }
def pnumWholesRow : OpenClaim := { program := "ytloiihbhpmmaiaa", sum := "41a2b58c4a5b6bb6d18e7d70fe64c5493d8727451e6e07c76429593eadde9439", func := "binnacle/binnaclelaw02.PnumWholes", spec := "pnumWholes", apart := false }
def PnumWholesSaid : Prop := pnumWholesRow.holds Try.pinned (OpenSpec.ofChange pnumWholesSpec)

/-- ITS FALSE NEIGHBOUR: 'it returns false'. Refute it at one input. -/
def pnumWholesWrong : ChangeSpec := { name := "pnumWholes", fn := fun _ => fun
  | [d1, d2, d3] => { results := [.lit (.bool false)], args := [d1, d2, d3] }
  | _ => none }
def PnumWholesWrongFalsely : Prop := pnumWholesRow.holds Try.pinned (OpenSpec.ofChange pnumWholesWrong)

/-- 'binnaclelaw18.CongGrows': WHATEVER THE INPUT: true; the input reads as it did. -/
def congGrowsSpec : ChangeSpec := { name := "congGrows", fn := fun _ => fun
  | [d1, d2] => { results := [.lit (.bool true)], args := [d1, d2] }
  | _ => none }
def congGrowsRow : OpenClaim := { program := "ytloiihbhpmmaiaa", sum := "41a2b58c4a5b6bb6d18e7d70fe64c5493d8727451e6e07c76429593eadde9439", func := "binnacle/binnaclelaw18.CongGrows", spec := "congGrows", apart := false }
def CongGrowsSaid : Prop := congGrowsRow.holds Try.pinned (OpenSpec.ofChange congGrowsSpec)

/-- ITS FALSE NEIGHBOUR: 'it returns false'. Refute it at one input. -/
def congGrowsWrong : ChangeSpec := { name := "congGrows", fn := fun _ => fun
  | [d1, d2] => { results := [.lit (.bool false)], args := [d1, d2] }
  | _ => none }
def CongGrowsWrongFalsely : Prop := congGrowsRow.holds Try.pinned (OpenSpec.ofChange congGrowsWrong)

/-- 'binnaclelaw17.RttBounds': WHATEVER THE INPUT: true; the input reads as it did. -/
def rttBoundsSpec : ChangeSpec := { name := "rttBounds", fn := fun _ => fun
  | [d1, d2] => { results := [.lit (.bool true)], args := [d1, d2] }
  | _ => none }
def rttBoundsRow : OpenClaim := { program := "ytloiihbhpmmaiaa", sum := "41a2b58c4a5b6bb6d18e7d70fe64c5493d8727451e6e07c76429593eadde9439", func := "binnacle/binnaclelaw17.RttBounds", spec := "rttBounds", apart := false }
def RttBoundsSaid : Prop := rttBoundsRow.holds Try.pinned (OpenSpec.ofChange rttBoundsSpec)

/-- ITS FALSE NEIGHBOUR: 'it returns false'. Refute it at one input. -/
def rttBoundsWrong : ChangeSpec := { name := "rttBounds", fn := fun _ => fun
  | [d1, d2] => { results := [.lit (.bool false)], args := [d1, d2] }
  | _ => none }
def RttBoundsWrongFalsely : Prop := rttBoundsRow.holds Try.pinned (OpenSpec.ofChange rttBoundsWrong)

/-- 'binnaclelaw20.CreditGives': WHATEVER THE INPUT: true; the input reads as it did. -/
def creditGivesSpec : ChangeSpec := { name := "creditGives", fn := fun _ => fun
  | [d1, d2] => { results := [.lit (.bool true)], args := [d1, d2] }
  | _ => none }
def creditGivesRow : OpenClaim := { program := "ytloiihbhpmmaiaa", sum := "41a2b58c4a5b6bb6d18e7d70fe64c5493d8727451e6e07c76429593eadde9439", func := "binnacle/binnaclelaw20.CreditGives", spec := "creditGives", apart := false }
def CreditGivesSaid : Prop := creditGivesRow.holds Try.pinned (OpenSpec.ofChange creditGivesSpec)

/-- ITS FALSE NEIGHBOUR: 'it returns false'. Refute it at one input. -/
def creditGivesWrong : ChangeSpec := { name := "creditGives", fn := fun _ => fun
  | [d1, d2] => { results := [.lit (.bool false)], args := [d1, d2] }
  | _ => none }
def CreditGivesWrongFalsely : Prop := creditGivesRow.holds Try.pinned (OpenSpec.ofChange creditGivesWrong)

/-- 'binnaclelaw20.CreditMeets': WHATEVER THE INPUT: true; the input reads as it did. -/
def creditMeetsSpec : ChangeSpec := { name := "creditMeets", fn := fun _ => fun
  | [d1, d2, d3] => { results := [.lit (.bool true)], args := [d1, d2, d3] }
  | _ => none }
def creditMeetsRow : OpenClaim := { program := "ytloiihbhpmmaiaa", sum := "41a2b58c4a5b6bb6d18e7d70fe64c5493d8727451e6e07c76429593eadde9439", func := "binnacle/binnaclelaw20.CreditMeets", spec := "creditMeets", apart := false }
def CreditMeetsSaid : Prop := creditMeetsRow.holds Try.pinned (OpenSpec.ofChange creditMeetsSpec)

/-- ITS FALSE NEIGHBOUR: 'it returns false'. Refute it at one input. -/
def creditMeetsWrong : ChangeSpec := { name := "creditMeets", fn := fun _ => fun
  | [d1, d2, d3] => { results := [.lit (.bool false)], args := [d1, d2, d3] }
  | _ => none }
def CreditMeetsWrongFalsely : Prop := creditMeetsRow.holds Try.pinned (OpenSpec.ofChange creditMeetsWrong)

/-- 'binnaclelaw20.CreditGets': WHATEVER THE INPUT: true; the input reads as it did. -/
def creditGetsSpec : ChangeSpec := { name := "creditGets", fn := fun _ => fun
  | [d] => { results := [.lit (.bool true)], args := [d] }
  | _ => none }
def creditGetsRow : OpenClaim := { program := "ytloiihbhpmmaiaa", sum := "41a2b58c4a5b6bb6d18e7d70fe64c5493d8727451e6e07c76429593eadde9439", func := "binnacle/binnaclelaw20.CreditGets", spec := "creditGets", apart := false }
def CreditGetsSaid : Prop := creditGetsRow.holds Try.pinned (OpenSpec.ofChange creditGetsSpec)

/-- ITS FALSE NEIGHBOUR: 'it returns false'. Refute it at one input. -/
def creditGetsWrong : ChangeSpec := { name := "creditGets", fn := fun _ => fun
  | [d] => { results := [.lit (.bool false)], args := [d] }
  | _ => none }
def CreditGetsWrongFalsely : Prop := creditGetsRow.holds Try.pinned (OpenSpec.ofChange creditGetsWrong)

/-- 'binnaclelaw18.CongRoom': WHATEVER THE INPUT: true; the input reads as it did. -/
def congRoomSpec : ChangeSpec := { name := "congRoom", fn := fun _ => fun
  | [d1, d2] => { results := [.lit (.bool true)], args := [d1, d2] }
  | _ => none }
def congRoomRow : OpenClaim := { program := "ytloiihbhpmmaiaa", sum := "41a2b58c4a5b6bb6d18e7d70fe64c5493d8727451e6e07c76429593eadde9439", func := "binnacle/binnaclelaw18.CongRoom", spec := "congRoom", apart := false }
def CongRoomSaid : Prop := congRoomRow.holds Try.pinned (OpenSpec.ofChange congRoomSpec)

/-- ITS FALSE NEIGHBOUR: 'it returns false'. Refute it at one input. -/
def congRoomWrong : ChangeSpec := { name := "congRoom", fn := fun _ => fun
  | [d1, d2] => { results := [.lit (.bool false)], args := [d1, d2] }
  | _ => none }
def CongRoomWrongFalsely : Prop := congRoomRow.holds Try.pinned (OpenSpec.ofChange congRoomWrong)

/-- 'binnaclelaw02.PnumSizes': WHATEVER THE INPUT: true; the input reads as it did. -/
def pnumSizesSpec : ChangeSpec := { name := "pnumSizes", fn := fun _ => fun
  | [d1, d2, d3] => { results := [.lit (.bool true)], args := [d1, d2, d3] }
  | _ => none }
def pnumSizesRow : OpenClaim := { program := "ytloiihbhpmmaiaa", sum := "41a2b58c4a5b6bb6d18e7d70fe64c5493d8727451e6e07c76429593eadde9439", func := "binnacle/binnaclelaw02.PnumSizes", spec := "pnumSizes", apart := false }
def PnumSizesSaid : Prop := pnumSizesRow.holds Try.pinned (OpenSpec.ofChange pnumSizesSpec)

/-- ITS FALSE NEIGHBOUR: 'it returns false'. Refute it at one input. -/
def pnumSizesWrong : ChangeSpec := { name := "pnumSizes", fn := fun _ => fun
  | [d1, d2, d3] => { results := [.lit (.bool false)], args := [d1, d2, d3] }
  | _ => none }
def PnumSizesWrongFalsely : Prop := pnumSizesRow.holds Try.pinned (OpenSpec.ofChange pnumSizesWrong)

/-- 'binnaclelaw02.PnumBack': WHATEVER THE INPUT: true; the input reads as it did. -/
def pnumBackSpec : ChangeSpec := { name := "pnumBack", fn := fun _ => fun
  | [d1, d2, d3] => { results := [.lit (.bool true)], args := [d1, d2, d3] }
  | _ => none }
def pnumBackRow : OpenClaim := { program := "ytloiihbhpmmaiaa", sum := "41a2b58c4a5b6bb6d18e7d70fe64c5493d8727451e6e07c76429593eadde9439", func := "binnacle/binnaclelaw02.PnumBack", spec := "pnumBack", apart := false }
def PnumBackSaid : Prop := pnumBackRow.holds Try.pinned (OpenSpec.ofChange pnumBackSpec)

/-- ITS FALSE NEIGHBOUR: 'it returns false'. Refute it at one input. -/
def pnumBackWrong : ChangeSpec := { name := "pnumBack", fn := fun _ => fun
  | [d1, d2, d3] => { results := [.lit (.bool false)], args := [d1, d2, d3] }
  | _ => none }
def PnumBackWrongFalsely : Prop := pnumBackRow.holds Try.pinned (OpenSpec.ofChange pnumBackWrong)

/- THE SECOND FORM. 'bulk': how many values and letters a reading holds, each counted each time it is reached (what is shared counts as often as it is met; a slice's spare places count too). A statement '..UptoSaid' is the law's where the arguments, and the package variables that the reading takes, are together of bulk at most 1048576: NARROWER than '..Said'. Prove '..Said' where nothing that the law and all that it calls make is longer than what came in: it says more and counts as full. Else prove '..UptoSaid'. A law counts once. -/
mutual
def uptoBulk {H : Type} : DataW H → Nat
  | .lit (.string bytes) => bytes.length + 1
  | .lit _ => 1
  | .nil => 1
  | .ptr d => uptoBulk d + 1
  | .slice elems spare => uptoBulkAll elems + uptoBulkAll spare + 1
  | .agg parts => uptoBulkAll parts + 1
  | .iface _ d => uptoBulk d + 1
  | .map entries => uptoBulkEntries entries + 1
  | .held _ => 1
def uptoBulkAll {H : Type} : List (DataW H) → Nat
  | [] => 0
  | d :: r => uptoBulk d + uptoBulkAll r
def uptoBulkEntries {H : Type} : List (Lit × DataW H) → Nat
  | [] => 0
  | x :: r => uptoBulkEntry x + uptoBulkEntries r
def uptoBulkEntry {H : Type} : Lit × DataW H → Nat
  | (.string bytes, d) => bytes.length + uptoBulk d + 1
  | (_, d) => uptoBulk d + 1
 end
def uptoSmall : (H : Type) → List (DataW H) → Bool := fun _ ds => decide (uptoBulkAll ds ≤ 1048576)
def OpenSpec.upto (s : _root_.Go.ChangeSpec) : _root_.Go.OpenSpec := { _root_.Go.OpenSpec.ofChange s with cond := some uptoSmall }

/-- 'binnaclelaw17.RttSame', WHERE WHAT IT READS IS OF BULK AT MOST 1048576: true; the input reads as it did. -/
def rttSameUptoRow : OpenClaim := { program := "ytloiihbhpmmaiaa", sum := "41a2b58c4a5b6bb6d18e7d70fe64c5493d8727451e6e07c76429593eadde9439", func := "binnacle/binnaclelaw17.RttSame", spec := "rttSame", apart := false, narrowed := true }
def RttSameUptoSaid : Prop := rttSameUptoRow.holds Try.pinned (OpenSpec.upto rttSameSpec)

/-- 'binnaclelaw02.PnumWholes', WHERE WHAT IT READS IS OF BULK AT MOST 1048576: true; the input reads as it did. -/
def pnumWholesUptoRow : OpenClaim := { program := "ytloiihbhpmmaiaa", sum := "41a2b58c4a5b6bb6d18e7d70fe64c5493d8727451e6e07c76429593eadde9439", func := "binnacle/binnaclelaw02.PnumWholes", spec := "pnumWholes", apart := false, narrowed := true }
def PnumWholesUptoSaid : Prop := pnumWholesUptoRow.holds Try.pinned (OpenSpec.upto pnumWholesSpec)

/-- 'binnaclelaw18.CongGrows', WHERE WHAT IT READS IS OF BULK AT MOST 1048576: true; the input reads as it did. -/
def congGrowsUptoRow : OpenClaim := { program := "ytloiihbhpmmaiaa", sum := "41a2b58c4a5b6bb6d18e7d70fe64c5493d8727451e6e07c76429593eadde9439", func := "binnacle/binnaclelaw18.CongGrows", spec := "congGrows", apart := false, narrowed := true }
def CongGrowsUptoSaid : Prop := congGrowsUptoRow.holds Try.pinned (OpenSpec.upto congGrowsSpec)

/-- 'binnaclelaw17.RttBounds', WHERE WHAT IT READS IS OF BULK AT MOST 1048576: true; the input reads as it did. -/
def rttBoundsUptoRow : OpenClaim := { program := "ytloiihbhpmmaiaa", sum := "41a2b58c4a5b6bb6d18e7d70fe64c5493d8727451e6e07c76429593eadde9439", func := "binnacle/binnaclelaw17.RttBounds", spec := "rttBounds", apart := false, narrowed := true }
def RttBoundsUptoSaid : Prop := rttBoundsUptoRow.holds Try.pinned (OpenSpec.upto rttBoundsSpec)

/-- 'binnaclelaw20.CreditGives', WHERE WHAT IT READS IS OF BULK AT MOST 1048576: true; the input reads as it did. -/
def creditGivesUptoRow : OpenClaim := { program := "ytloiihbhpmmaiaa", sum := "41a2b58c4a5b6bb6d18e7d70fe64c5493d8727451e6e07c76429593eadde9439", func := "binnacle/binnaclelaw20.CreditGives", spec := "creditGives", apart := false, narrowed := true }
def CreditGivesUptoSaid : Prop := creditGivesUptoRow.holds Try.pinned (OpenSpec.upto creditGivesSpec)

/-- 'binnaclelaw20.CreditMeets', WHERE WHAT IT READS IS OF BULK AT MOST 1048576: true; the input reads as it did. -/
def creditMeetsUptoRow : OpenClaim := { program := "ytloiihbhpmmaiaa", sum := "41a2b58c4a5b6bb6d18e7d70fe64c5493d8727451e6e07c76429593eadde9439", func := "binnacle/binnaclelaw20.CreditMeets", spec := "creditMeets", apart := false, narrowed := true }
def CreditMeetsUptoSaid : Prop := creditMeetsUptoRow.holds Try.pinned (OpenSpec.upto creditMeetsSpec)

/-- 'binnaclelaw20.CreditGets', WHERE WHAT IT READS IS OF BULK AT MOST 1048576: true; the input reads as it did. -/
def creditGetsUptoRow : OpenClaim := { program := "ytloiihbhpmmaiaa", sum := "41a2b58c4a5b6bb6d18e7d70fe64c5493d8727451e6e07c76429593eadde9439", func := "binnacle/binnaclelaw20.CreditGets", spec := "creditGets", apart := false, narrowed := true }
def CreditGetsUptoSaid : Prop := creditGetsUptoRow.holds Try.pinned (OpenSpec.upto creditGetsSpec)

/-- 'binnaclelaw18.CongRoom', WHERE WHAT IT READS IS OF BULK AT MOST 1048576: true; the input reads as it did. -/
def congRoomUptoRow : OpenClaim := { program := "ytloiihbhpmmaiaa", sum := "41a2b58c4a5b6bb6d18e7d70fe64c5493d8727451e6e07c76429593eadde9439", func := "binnacle/binnaclelaw18.CongRoom", spec := "congRoom", apart := false, narrowed := true }
def CongRoomUptoSaid : Prop := congRoomUptoRow.holds Try.pinned (OpenSpec.upto congRoomSpec)

/-- 'binnaclelaw02.PnumSizes', WHERE WHAT IT READS IS OF BULK AT MOST 1048576: true; the input reads as it did. -/
def pnumSizesUptoRow : OpenClaim := { program := "ytloiihbhpmmaiaa", sum := "41a2b58c4a5b6bb6d18e7d70fe64c5493d8727451e6e07c76429593eadde9439", func := "binnacle/binnaclelaw02.PnumSizes", spec := "pnumSizes", apart := false, narrowed := true }
def PnumSizesUptoSaid : Prop := pnumSizesUptoRow.holds Try.pinned (OpenSpec.upto pnumSizesSpec)

/-- 'binnaclelaw02.PnumBack', WHERE WHAT IT READS IS OF BULK AT MOST 1048576: true; the input reads as it did. -/
def pnumBackUptoRow : OpenClaim := { program := "ytloiihbhpmmaiaa", sum := "41a2b58c4a5b6bb6d18e7d70fe64c5493d8727451e6e07c76429593eadde9439", func := "binnacle/binnaclelaw02.PnumBack", spec := "pnumBack", apart := false, narrowed := true }
def PnumBackUptoSaid : Prop := pnumBackUptoRow.holds Try.pinned (OpenSpec.upto pnumBackSpec)

end Rows
end Go.Proofs.Ytloiihbhpmmaiaa

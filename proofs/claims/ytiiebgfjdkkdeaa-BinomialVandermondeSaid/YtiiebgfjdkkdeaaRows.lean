/-
  No cell of these rows narrows 'for every input' (looked for: loops, veiled, ifaces, maps, wideKeys, modest, calm, conditions, laid).
  DERIVED. THE GIVEN ROWS OF THIS SEAT. 7 by the template 'for every input the law returns true; each argument reads behind the call as it read before'; 0 by the template 'total and deterministic' (their statements: YtiiebgfjdkkdeaaTotals.lean).
  GIVEN WITH THE SEED: the statements are not yours to turn. If you find one false, say at which input.
  Laid BY PROGRAM, IN A SANDBOX (cutbox-rows.mjs): the forced cells as the released guide's own fill.sh prints them over the translation 249687c635d64664… (all of the seat's roots in one cut). By AI agents, Wed Nov 11 2026. No macro, syntax, notation, axiom, sorry.
-/
import Derived.Test.YtiiebgfjdkkdeaaChecked
import GoSem.Claim
import GoSem.ClaimJoined
import GoSem.ClaimMapViews
import Derived.JoinedTies
import Derived.KernelRfl
namespace Go.Proofs.Ytiiebgfjdkkdeaa
/- THE CELL 'sum', in the pinned program and in every row, IS THE sha256 OF THE DUMP (.gsa) THAT YtiiebgfjdkkdeaaProg.lean LOADS. Nothing in Lean hashes anything: it is a label: what it is worth is what the hold of that sum in a sandbox is worth. -/
noncomputable def Try.pinned : Pinned := { name := "ytiiebgfjdkkdeaa", sum := "249687c635d646643ead40d047805a98dedb8dd858a786b12f3d16d0d0dcd0d0", checked := Try.checked }
namespace Rows
def none {H : Type} : Left H := { results := [], args := [] }

/-- 'amortcostlaw02.BinomialChooses': WHATEVER THE INPUT: true; the input reads as it did. -/
def binomialChoosesSpec : ChangeSpec := { name := "binomialChooses", fn := fun _ => fun
  | [d1, d2] => { results := [.lit (.bool true)], args := [d1, d2] }
  | _ => none }
def binomialChoosesRow : OpenClaim := { program := "ytiiebgfjdkkdeaa", sum := "249687c635d646643ead40d047805a98dedb8dd858a786b12f3d16d0d0dcd0d0", func := "amortcost/amortcostlaw02.BinomialChooses", spec := "binomialChooses", apart := false }
def BinomialChoosesSaid : Prop := binomialChoosesRow.holds Try.pinned (OpenSpec.ofChange binomialChoosesSpec)

/-- ITS FALSE NEIGHBOUR: 'it returns false'. Refute it at one input. -/
def binomialChoosesWrong : ChangeSpec := { name := "binomialChooses", fn := fun _ => fun
  | [d1, d2] => { results := [.lit (.bool false)], args := [d1, d2] }
  | _ => none }
def BinomialChoosesWrongFalsely : Prop := binomialChoosesRow.holds Try.pinned (OpenSpec.ofChange binomialChoosesWrong)

/-- 'amortcostlaw02.BinomialPascal': WHATEVER THE INPUT: true; the input reads as it did. -/
def binomialPascalSpec : ChangeSpec := { name := "binomialPascal", fn := fun _ => fun
  | [d1, d2] => { results := [.lit (.bool true)], args := [d1, d2] }
  | _ => none }
def binomialPascalRow : OpenClaim := { program := "ytiiebgfjdkkdeaa", sum := "249687c635d646643ead40d047805a98dedb8dd858a786b12f3d16d0d0dcd0d0", func := "amortcost/amortcostlaw02.BinomialPascal", spec := "binomialPascal", apart := false }
def BinomialPascalSaid : Prop := binomialPascalRow.holds Try.pinned (OpenSpec.ofChange binomialPascalSpec)

/-- ITS FALSE NEIGHBOUR: 'it returns false'. Refute it at one input. -/
def binomialPascalWrong : ChangeSpec := { name := "binomialPascal", fn := fun _ => fun
  | [d1, d2] => { results := [.lit (.bool false)], args := [d1, d2] }
  | _ => none }
def BinomialPascalWrongFalsely : Prop := binomialPascalRow.holds Try.pinned (OpenSpec.ofChange binomialPascalWrong)

/-- 'amortcostlaw02.BinomialProducts': WHATEVER THE INPUT: true; the input reads as it did. -/
def binomialProductsSpec : ChangeSpec := { name := "binomialProducts", fn := fun _ => fun
  | [d1, d2] => { results := [.lit (.bool true)], args := [d1, d2] }
  | _ => none }
def binomialProductsRow : OpenClaim := { program := "ytiiebgfjdkkdeaa", sum := "249687c635d646643ead40d047805a98dedb8dd858a786b12f3d16d0d0dcd0d0", func := "amortcost/amortcostlaw02.BinomialProducts", spec := "binomialProducts", apart := false }
def BinomialProductsSaid : Prop := binomialProductsRow.holds Try.pinned (OpenSpec.ofChange binomialProductsSpec)

/-- ITS FALSE NEIGHBOUR: 'it returns false'. Refute it at one input. -/
def binomialProductsWrong : ChangeSpec := { name := "binomialProducts", fn := fun _ => fun
  | [d1, d2] => { results := [.lit (.bool false)], args := [d1, d2] }
  | _ => none }
def BinomialProductsWrongFalsely : Prop := binomialProductsRow.holds Try.pinned (OpenSpec.ofChange binomialProductsWrong)

/-- 'amortcostlaw02.BinomialIdentity': WHATEVER THE INPUT: true; the input reads as it did. -/
def binomialIdentitySpec : ChangeSpec := { name := "binomialIdentity", fn := fun _ => fun
  | [d1, d2, d3] => { results := [.lit (.bool true)], args := [d1, d2, d3] }
  | _ => none }
def binomialIdentityRow : OpenClaim := { program := "ytiiebgfjdkkdeaa", sum := "249687c635d646643ead40d047805a98dedb8dd858a786b12f3d16d0d0dcd0d0", func := "amortcost/amortcostlaw02.BinomialIdentity", spec := "binomialIdentity", apart := false }
def BinomialIdentitySaid : Prop := binomialIdentityRow.holds Try.pinned (OpenSpec.ofChange binomialIdentitySpec)

/-- ITS FALSE NEIGHBOUR: 'it returns false'. Refute it at one input. -/
def binomialIdentityWrong : ChangeSpec := { name := "binomialIdentity", fn := fun _ => fun
  | [d1, d2, d3] => { results := [.lit (.bool false)], args := [d1, d2, d3] }
  | _ => none }
def BinomialIdentityWrongFalsely : Prop := binomialIdentityRow.holds Try.pinned (OpenSpec.ofChange binomialIdentityWrong)

/-- 'amortcostlaw02.BinomialEvals': WHATEVER THE INPUT: true; the input reads as it did. -/
def binomialEvalsSpec : ChangeSpec := { name := "binomialEvals", fn := fun _ => fun
  | [d1, d2] => { results := [.lit (.bool true)], args := [d1, d2] }
  | _ => none }
def binomialEvalsRow : OpenClaim := { program := "ytiiebgfjdkkdeaa", sum := "249687c635d646643ead40d047805a98dedb8dd858a786b12f3d16d0d0dcd0d0", func := "amortcost/amortcostlaw02.BinomialEvals", spec := "binomialEvals", apart := false }
def BinomialEvalsSaid : Prop := binomialEvalsRow.holds Try.pinned (OpenSpec.ofChange binomialEvalsSpec)

/-- ITS FALSE NEIGHBOUR: 'it returns false'. Refute it at one input. -/
def binomialEvalsWrong : ChangeSpec := { name := "binomialEvals", fn := fun _ => fun
  | [d1, d2] => { results := [.lit (.bool false)], args := [d1, d2] }
  | _ => none }
def BinomialEvalsWrongFalsely : Prop := binomialEvalsRow.holds Try.pinned (OpenSpec.ofChange binomialEvalsWrong)

/-- 'amortcostlaw02.BinomialShifts': WHATEVER THE INPUT: true; the input reads as it did. -/
def binomialShiftsSpec : ChangeSpec := { name := "binomialShifts", fn := fun _ => fun
  | [d1, d2] => { results := [.lit (.bool true)], args := [d1, d2] }
  | _ => none }
def binomialShiftsRow : OpenClaim := { program := "ytiiebgfjdkkdeaa", sum := "249687c635d646643ead40d047805a98dedb8dd858a786b12f3d16d0d0dcd0d0", func := "amortcost/amortcostlaw02.BinomialShifts", spec := "binomialShifts", apart := false }
def BinomialShiftsSaid : Prop := binomialShiftsRow.holds Try.pinned (OpenSpec.ofChange binomialShiftsSpec)

/-- ITS FALSE NEIGHBOUR: 'it returns false'. Refute it at one input. -/
def binomialShiftsWrong : ChangeSpec := { name := "binomialShifts", fn := fun _ => fun
  | [d1, d2] => { results := [.lit (.bool false)], args := [d1, d2] }
  | _ => none }
def BinomialShiftsWrongFalsely : Prop := binomialShiftsRow.holds Try.pinned (OpenSpec.ofChange binomialShiftsWrong)

/-- 'amortcostlaw02.BinomialVandermonde': WHATEVER THE INPUT: true; the input reads as it did. -/
def binomialVandermondeSpec : ChangeSpec := { name := "binomialVandermonde", fn := fun _ => fun
  | [d1, d2, d3] => { results := [.lit (.bool true)], args := [d1, d2, d3] }
  | _ => none }
def binomialVandermondeRow : OpenClaim := { program := "ytiiebgfjdkkdeaa", sum := "249687c635d646643ead40d047805a98dedb8dd858a786b12f3d16d0d0dcd0d0", func := "amortcost/amortcostlaw02.BinomialVandermonde", spec := "binomialVandermonde", apart := false }
def BinomialVandermondeSaid : Prop := binomialVandermondeRow.holds Try.pinned (OpenSpec.ofChange binomialVandermondeSpec)

/-- ITS FALSE NEIGHBOUR: 'it returns false'. Refute it at one input. -/
def binomialVandermondeWrong : ChangeSpec := { name := "binomialVandermonde", fn := fun _ => fun
  | [d1, d2, d3] => { results := [.lit (.bool false)], args := [d1, d2, d3] }
  | _ => none }
def BinomialVandermondeWrongFalsely : Prop := binomialVandermondeRow.holds Try.pinned (OpenSpec.ofChange binomialVandermondeWrong)

/- THE SECOND FORM. 'bulk': how many values and letters a reading holds, each counted each time it is reached (what is shared counts as often as it is met; a slice's spare places count too). A statement '..UptoSaid' is the law's where the arguments, and the package variables that the reading takes, are together of bulk at most 1048576: NARROWER than '..Said'. Prove '..Said' where nothing that the law and all that it calls make is longer than what came in: it says more and counts as full. Else prove '..UptoSaid'. A law counts once. -/
mutual
def uptoBulk {H : Type} : DataW H → Nat
  | .lit (.string bytes) => bytes.length + 1
  | .lit _ => 1
  | .nil => 1
  | .ptr d => uptoBulk d + 1
  | .slice elems spare => uptoBulkAll elems + uptoBulkAll spare + 1
  | .agg parts => uptoBulkAll parts + 1
  | .iface _ d => uptoBulk d + 1
  | .map entries => uptoBulkEntries entries + 1
  | .held _ => 1
def uptoBulkAll {H : Type} : List (DataW H) → Nat
  | [] => 0
  | d :: r => uptoBulk d + uptoBulkAll r
def uptoBulkEntries {H : Type} : List (Lit × DataW H) → Nat
  | [] => 0
  | x :: r => uptoBulkEntry x + uptoBulkEntries r
def uptoBulkEntry {H : Type} : Lit × DataW H → Nat
  | (.string bytes, d) => bytes.length + uptoBulk d + 1
  | (_, d) => uptoBulk d + 1
 end
def uptoSmall : (H : Type) → List (DataW H) → Bool := fun _ ds => decide (uptoBulkAll ds ≤ 1048576)
def OpenSpec.upto (s : _root_.Go.ChangeSpec) : _root_.Go.OpenSpec := { _root_.Go.OpenSpec.ofChange s with cond := some uptoSmall }

/-- 'amortcostlaw02.BinomialChooses', WHERE WHAT IT READS IS OF BULK AT MOST 1048576: true; the input reads as it did. -/
def binomialChoosesUptoRow : OpenClaim := { program := "ytiiebgfjdkkdeaa", sum := "249687c635d646643ead40d047805a98dedb8dd858a786b12f3d16d0d0dcd0d0", func := "amortcost/amortcostlaw02.BinomialChooses", spec := "binomialChooses", apart := false, narrowed := true }
def BinomialChoosesUptoSaid : Prop := binomialChoosesUptoRow.holds Try.pinned (OpenSpec.upto binomialChoosesSpec)

/-- 'amortcostlaw02.BinomialPascal', WHERE WHAT IT READS IS OF BULK AT MOST 1048576: true; the input reads as it did. -/
def binomialPascalUptoRow : OpenClaim := { program := "ytiiebgfjdkkdeaa", sum := "249687c635d646643ead40d047805a98dedb8dd858a786b12f3d16d0d0dcd0d0", func := "amortcost/amortcostlaw02.BinomialPascal", spec := "binomialPascal", apart := false, narrowed := true }
def BinomialPascalUptoSaid : Prop := binomialPascalUptoRow.holds Try.pinned (OpenSpec.upto binomialPascalSpec)

/-- 'amortcostlaw02.BinomialProducts', WHERE WHAT IT READS IS OF BULK AT MOST 1048576: true; the input reads as it did. -/
def binomialProductsUptoRow : OpenClaim := { program := "ytiiebgfjdkkdeaa", sum := "249687c635d646643ead40d047805a98dedb8dd858a786b12f3d16d0d0dcd0d0", func := "amortcost/amortcostlaw02.BinomialProducts", spec := "binomialProducts", apart := false, narrowed := true }
def BinomialProductsUptoSaid : Prop := binomialProductsUptoRow.holds Try.pinned (OpenSpec.upto binomialProductsSpec)

/-- 'amortcostlaw02.BinomialIdentity', WHERE WHAT IT READS IS OF BULK AT MOST 1048576: true; the input reads as it did. -/
def binomialIdentityUptoRow : OpenClaim := { program := "ytiiebgfjdkkdeaa", sum := "249687c635d646643ead40d047805a98dedb8dd858a786b12f3d16d0d0dcd0d0", func := "amortcost/amortcostlaw02.BinomialIdentity", spec := "binomialIdentity", apart := false, narrowed := true }
def BinomialIdentityUptoSaid : Prop := binomialIdentityUptoRow.holds Try.pinned (OpenSpec.upto binomialIdentitySpec)

/-- 'amortcostlaw02.BinomialEvals', WHERE WHAT IT READS IS OF BULK AT MOST 1048576: true; the input reads as it did. -/
def binomialEvalsUptoRow : OpenClaim := { program := "ytiiebgfjdkkdeaa", sum := "249687c635d646643ead40d047805a98dedb8dd858a786b12f3d16d0d0dcd0d0", func := "amortcost/amortcostlaw02.BinomialEvals", spec := "binomialEvals", apart := false, narrowed := true }
def BinomialEvalsUptoSaid : Prop := binomialEvalsUptoRow.holds Try.pinned (OpenSpec.upto binomialEvalsSpec)

/-- 'amortcostlaw02.BinomialShifts', WHERE WHAT IT READS IS OF BULK AT MOST 1048576: true; the input reads as it did. -/
def binomialShiftsUptoRow : OpenClaim := { program := "ytiiebgfjdkkdeaa", sum := "249687c635d646643ead40d047805a98dedb8dd858a786b12f3d16d0d0dcd0d0", func := "amortcost/amortcostlaw02.BinomialShifts", spec := "binomialShifts", apart := false, narrowed := true }
def BinomialShiftsUptoSaid : Prop := binomialShiftsUptoRow.holds Try.pinned (OpenSpec.upto binomialShiftsSpec)

/-- 'amortcostlaw02.BinomialVandermonde', WHERE WHAT IT READS IS OF BULK AT MOST 1048576: true; the input reads as it did. -/
def binomialVandermondeUptoRow : OpenClaim := { program := "ytiiebgfjdkkdeaa", sum := "249687c635d646643ead40d047805a98dedb8dd858a786b12f3d16d0d0dcd0d0", func := "amortcost/amortcostlaw02.BinomialVandermonde", spec := "binomialVandermonde", apart := false, narrowed := true }
def BinomialVandermondeUptoSaid : Prop := binomialVandermondeUptoRow.holds Try.pinned (OpenSpec.upto binomialVandermondeSpec)

end Rows
end Go.Proofs.Ytiiebgfjdkkdeaa

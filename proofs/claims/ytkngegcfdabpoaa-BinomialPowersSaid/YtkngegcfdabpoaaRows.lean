/-
  No cell of these rows narrows 'for every input' (looked for: loops, veiled, ifaces, maps, wideKeys, modest, calm, conditions, laid).
  DERIVED. THE GIVEN ROWS OF THIS SEAT. 6 by the template 'for every input the law returns true; each argument reads behind the call as it read before'; 0 by the template 'total and deterministic' (their statements: YtkngegcfdabpoaaTotals.lean).
  GIVEN WITH THE SEED: the statements are not yours to turn. If you find one false, say at which input.
  Laid BY PROGRAM, IN A SANDBOX (cutbox-rows.mjs): the forced cells as the released guide's own fill.sh prints them over the translation bc086f0cfeccde99… (all of the seat's roots in one cut). By AI agents, Wed Nov 11 2026. No macro, syntax, notation, axiom, sorry.
-/
import Derived.Test.YtkngegcfdabpoaaChecked
import GoSem.Claim
import GoSem.ClaimJoined
import GoSem.ClaimMapViews
import Derived.JoinedTies
import Derived.KernelRfl
namespace Go.Proofs.Ytkngegcfdabpoaa
/- THE CELL 'sum', in the pinned program and in every row, IS THE sha256 OF THE DUMP (.gsa) THAT YtkngegcfdabpoaaProg.lean LOADS. Nothing in Lean hashes anything: it is a label: what it is worth is what the hold of that sum in a sandbox is worth. -/
noncomputable def Try.pinned : Pinned := { name := "ytkngegcfdabpoaa", sum := "bc086f0cfeccde9927fc7d64b2c36880b6e88f743ab1d37d3ba09bb8147f9454", checked := Try.checked }
namespace Rows
def none {H : Type} : Left H := { results := [], args := [] }

/-- 'amortcostlaw02.BinomialDifferences': WHATEVER THE INPUT: true; the input reads as it did. -/
def binomialDifferencesSpec : ChangeSpec := { name := "binomialDifferences", fn := fun _ => fun
  | [d] => { results := [.lit (.bool true)], args := [d] }
  | _ => none }
def binomialDifferencesRow : OpenClaim := { program := "ytkngegcfdabpoaa", sum := "bc086f0cfeccde9927fc7d64b2c36880b6e88f743ab1d37d3ba09bb8147f9454", func := "amortcost/amortcostlaw02.BinomialDifferences", spec := "binomialDifferences", unfollowed := true, recurses := true, apart := false }
def BinomialDifferencesSaid : Prop := binomialDifferencesRow.holds Try.pinned (OpenSpec.ofChange binomialDifferencesSpec)

/-- ITS FALSE NEIGHBOUR: 'it returns false'. Refute it at one input. -/
def binomialDifferencesWrong : ChangeSpec := { name := "binomialDifferences", fn := fun _ => fun
  | [d] => { results := [.lit (.bool false)], args := [d] }
  | _ => none }
def BinomialDifferencesWrongFalsely : Prop := binomialDifferencesRow.holds Try.pinned (OpenSpec.ofChange binomialDifferencesWrong)

/-- 'amortcostlaw02.BinomialInterpolates': WHATEVER THE INPUT: true; the input reads as it did. -/
def binomialInterpolatesSpec : ChangeSpec := { name := "binomialInterpolates", fn := fun _ => fun
  | [d] => { results := [.lit (.bool true)], args := [d] }
  | _ => none }
def binomialInterpolatesRow : OpenClaim := { program := "ytkngegcfdabpoaa", sum := "bc086f0cfeccde9927fc7d64b2c36880b6e88f743ab1d37d3ba09bb8147f9454", func := "amortcost/amortcostlaw02.BinomialInterpolates", spec := "binomialInterpolates", unfollowed := true, recurses := true, apart := false }
def BinomialInterpolatesSaid : Prop := binomialInterpolatesRow.holds Try.pinned (OpenSpec.ofChange binomialInterpolatesSpec)

/-- ITS FALSE NEIGHBOUR: 'it returns false'. Refute it at one input. -/
def binomialInterpolatesWrong : ChangeSpec := { name := "binomialInterpolates", fn := fun _ => fun
  | [d] => { results := [.lit (.bool false)], args := [d] }
  | _ => none }
def BinomialInterpolatesWrongFalsely : Prop := binomialInterpolatesRow.holds Try.pinned (OpenSpec.ofChange binomialInterpolatesWrong)

/-- 'amortcostlaw02.BinomialPowers': WHATEVER THE INPUT: true; the input reads as it did. -/
def binomialPowersSpec : ChangeSpec := { name := "binomialPowers", fn := fun _ => fun
  | [d] => { results := [.lit (.bool true)], args := [d] }
  | _ => none }
def binomialPowersRow : OpenClaim := { program := "ytkngegcfdabpoaa", sum := "bc086f0cfeccde9927fc7d64b2c36880b6e88f743ab1d37d3ba09bb8147f9454", func := "amortcost/amortcostlaw02.BinomialPowers", spec := "binomialPowers", unfollowed := true, recurses := true, apart := false }
def BinomialPowersSaid : Prop := binomialPowersRow.holds Try.pinned (OpenSpec.ofChange binomialPowersSpec)

/-- ITS FALSE NEIGHBOUR: 'it returns false'. Refute it at one input. -/
def binomialPowersWrong : ChangeSpec := { name := "binomialPowers", fn := fun _ => fun
  | [d] => { results := [.lit (.bool false)], args := [d] }
  | _ => none }
def BinomialPowersWrongFalsely : Prop := binomialPowersRow.holds Try.pinned (OpenSpec.ofChange binomialPowersWrong)

/-- 'amortcostlaw02.BinomialAdds': WHATEVER THE INPUT: true; the input reads as it did. -/
def binomialAddsSpec : ChangeSpec := { name := "binomialAdds", fn := fun _ => fun
  | [d1, d2] => { results := [.lit (.bool true)], args := [d1, d2] }
  | _ => none }
def binomialAddsRow : OpenClaim := { program := "ytkngegcfdabpoaa", sum := "bc086f0cfeccde9927fc7d64b2c36880b6e88f743ab1d37d3ba09bb8147f9454", func := "amortcost/amortcostlaw02.BinomialAdds", spec := "binomialAdds", unfollowed := true, recurses := true, apart := false }
def BinomialAddsSaid : Prop := binomialAddsRow.holds Try.pinned (OpenSpec.ofChange binomialAddsSpec)

/-- ITS FALSE NEIGHBOUR: 'it returns false'. Refute it at one input. -/
def binomialAddsWrong : ChangeSpec := { name := "binomialAdds", fn := fun _ => fun
  | [d1, d2] => { results := [.lit (.bool false)], args := [d1, d2] }
  | _ => none }
def BinomialAddsWrongFalsely : Prop := binomialAddsRow.holds Try.pinned (OpenSpec.ofChange binomialAddsWrong)

/-- 'amortcostlaw02.BinomialBases': WHATEVER THE INPUT: true; the input reads as it did. -/
def binomialBasesSpec : ChangeSpec := { name := "binomialBases", fn := fun _ => fun
  | [d1, d2] => { results := [.lit (.bool true)], args := [d1, d2] }
  | _ => none }
def binomialBasesRow : OpenClaim := { program := "ytkngegcfdabpoaa", sum := "bc086f0cfeccde9927fc7d64b2c36880b6e88f743ab1d37d3ba09bb8147f9454", func := "amortcost/amortcostlaw02.BinomialBases", spec := "binomialBases", unfollowed := true, recurses := true, apart := false }
def BinomialBasesSaid : Prop := binomialBasesRow.holds Try.pinned (OpenSpec.ofChange binomialBasesSpec)

/-- ITS FALSE NEIGHBOUR: 'it returns false'. Refute it at one input. -/
def binomialBasesWrong : ChangeSpec := { name := "binomialBases", fn := fun _ => fun
  | [d1, d2] => { results := [.lit (.bool false)], args := [d1, d2] }
  | _ => none }
def BinomialBasesWrongFalsely : Prop := binomialBasesRow.holds Try.pinned (OpenSpec.ofChange binomialBasesWrong)

/-- 'amortcostlaw02.BinomialRing': WHATEVER THE INPUT: true; the input reads as it did. -/
def binomialRingSpec : ChangeSpec := { name := "binomialRing", fn := fun _ => fun
  | [d1, d2, d3] => { results := [.lit (.bool true)], args := [d1, d2, d3] }
  | _ => none }
def binomialRingRow : OpenClaim := { program := "ytkngegcfdabpoaa", sum := "bc086f0cfeccde9927fc7d64b2c36880b6e88f743ab1d37d3ba09bb8147f9454", func := "amortcost/amortcostlaw02.BinomialRing", spec := "binomialRing", unfollowed := true, recurses := true, apart := false }
def BinomialRingSaid : Prop := binomialRingRow.holds Try.pinned (OpenSpec.ofChange binomialRingSpec)

/-- ITS FALSE NEIGHBOUR: 'it returns false'. Refute it at one input. -/
def binomialRingWrong : ChangeSpec := { name := "binomialRing", fn := fun _ => fun
  | [d1, d2, d3] => { results := [.lit (.bool false)], args := [d1, d2, d3] }
  | _ => none }
def BinomialRingWrongFalsely : Prop := binomialRingRow.holds Try.pinned (OpenSpec.ofChange binomialRingWrong)

/- THE SECOND FORM. 'bulk': how many values and letters a reading holds, each counted each time it is reached (what is shared counts as often as it is met; a slice's spare places count too). A statement '..UptoSaid' is the law's where the arguments, and the package variables that the reading takes, are together of bulk at most 1048576: NARROWER than '..Said'. Prove '..Said' where nothing that the law and all that it calls make is longer than what came in: it says more and counts as full. Else prove '..UptoSaid'. A law counts once. -/
mutual
def uptoBulk {H : Type} : DataW H → Nat
  | .lit (.string bytes) => bytes.length + 1
  | .lit _ => 1
  | .nil => 1
  | .ptr d => uptoBulk d + 1
  | .slice elems spare => uptoBulkAll elems + uptoBulkAll spare + 1
  | .agg parts => uptoBulkAll parts + 1
  | .iface _ d => uptoBulk d + 1
  | .map entries => uptoBulkEntries entries + 1
  | .held _ => 1
def uptoBulkAll {H : Type} : List (DataW H) → Nat
  | [] => 0
  | d :: r => uptoBulk d + uptoBulkAll r
def uptoBulkEntries {H : Type} : List (Lit × DataW H) → Nat
  | [] => 0
  | x :: r => uptoBulkEntry x + uptoBulkEntries r
def uptoBulkEntry {H : Type} : Lit × DataW H → Nat
  | (.string bytes, d) => bytes.length + uptoBulk d + 1
  | (_, d) => uptoBulk d + 1
 end
def uptoSmall : (H : Type) → List (DataW H) → Bool := fun _ ds => decide (uptoBulkAll ds ≤ 1048576)
def OpenSpec.upto (s : _root_.Go.ChangeSpec) : _root_.Go.OpenSpec := { _root_.Go.OpenSpec.ofChange s with cond := some uptoSmall }

/-- 'amortcostlaw02.BinomialDifferences', WHERE WHAT IT READS IS OF BULK AT MOST 1048576: true; the input reads as it did. -/
def binomialDifferencesUptoRow : OpenClaim := { program := "ytkngegcfdabpoaa", sum := "bc086f0cfeccde9927fc7d64b2c36880b6e88f743ab1d37d3ba09bb8147f9454", func := "amortcost/amortcostlaw02.BinomialDifferences", spec := "binomialDifferences", unfollowed := true, recurses := true, apart := false, narrowed := true }
def BinomialDifferencesUptoSaid : Prop := binomialDifferencesUptoRow.holds Try.pinned (OpenSpec.upto binomialDifferencesSpec)

/-- 'amortcostlaw02.BinomialInterpolates', WHERE WHAT IT READS IS OF BULK AT MOST 1048576: true; the input reads as it did. -/
def binomialInterpolatesUptoRow : OpenClaim := { program := "ytkngegcfdabpoaa", sum := "bc086f0cfeccde9927fc7d64b2c36880b6e88f743ab1d37d3ba09bb8147f9454", func := "amortcost/amortcostlaw02.BinomialInterpolates", spec := "binomialInterpolates", unfollowed := true, recurses := true, apart := false, narrowed := true }
def BinomialInterpolatesUptoSaid : Prop := binomialInterpolatesUptoRow.holds Try.pinned (OpenSpec.upto binomialInterpolatesSpec)

/-- 'amortcostlaw02.BinomialPowers', WHERE WHAT IT READS IS OF BULK AT MOST 1048576: true; the input reads as it did. -/
def binomialPowersUptoRow : OpenClaim := { program := "ytkngegcfdabpoaa", sum := "bc086f0cfeccde9927fc7d64b2c36880b6e88f743ab1d37d3ba09bb8147f9454", func := "amortcost/amortcostlaw02.BinomialPowers", spec := "binomialPowers", unfollowed := true, recurses := true, apart := false, narrowed := true }
def BinomialPowersUptoSaid : Prop := binomialPowersUptoRow.holds Try.pinned (OpenSpec.upto binomialPowersSpec)

/-- 'amortcostlaw02.BinomialAdds', WHERE WHAT IT READS IS OF BULK AT MOST 1048576: true; the input reads as it did. -/
def binomialAddsUptoRow : OpenClaim := { program := "ytkngegcfdabpoaa", sum := "bc086f0cfeccde9927fc7d64b2c36880b6e88f743ab1d37d3ba09bb8147f9454", func := "amortcost/amortcostlaw02.BinomialAdds", spec := "binomialAdds", unfollowed := true, recurses := true, apart := false, narrowed := true }
def BinomialAddsUptoSaid : Prop := binomialAddsUptoRow.holds Try.pinned (OpenSpec.upto binomialAddsSpec)

/-- 'amortcostlaw02.BinomialBases', WHERE WHAT IT READS IS OF BULK AT MOST 1048576: true; the input reads as it did. -/
def binomialBasesUptoRow : OpenClaim := { program := "ytkngegcfdabpoaa", sum := "bc086f0cfeccde9927fc7d64b2c36880b6e88f743ab1d37d3ba09bb8147f9454", func := "amortcost/amortcostlaw02.BinomialBases", spec := "binomialBases", unfollowed := true, recurses := true, apart := false, narrowed := true }
def BinomialBasesUptoSaid : Prop := binomialBasesUptoRow.holds Try.pinned (OpenSpec.upto binomialBasesSpec)

/-- 'amortcostlaw02.BinomialRing', WHERE WHAT IT READS IS OF BULK AT MOST 1048576: true; the input reads as it did. -/
def binomialRingUptoRow : OpenClaim := { program := "ytkngegcfdabpoaa", sum := "bc086f0cfeccde9927fc7d64b2c36880b6e88f743ab1d37d3ba09bb8147f9454", func := "amortcost/amortcostlaw02.BinomialRing", spec := "binomialRing", unfollowed := true, recurses := true, apart := false, narrowed := true }
def BinomialRingUptoSaid : Prop := binomialRingUptoRow.holds Try.pinned (OpenSpec.upto binomialRingSpec)

end Rows
end Go.Proofs.Ytkngegcfdabpoaa

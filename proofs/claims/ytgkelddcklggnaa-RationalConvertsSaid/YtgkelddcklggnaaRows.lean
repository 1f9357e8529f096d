/-
  No cell of these rows narrows 'for every input' (looked for: loops, veiled, ifaces, maps, wideKeys, modest, calm, conditions, laid).
  DERIVED. THE GIVEN ROWS OF THIS SEAT. 6 by the template 'for every input the law returns true; each argument reads behind the call as it read before'; 0 by the template 'total and deterministic' (their statements: YtgkelddcklggnaaTotals.lean).
  GIVEN WITH THE SEED: the statements are not yours to turn. If you find one false, say at which input.
  Laid BY PROGRAM, IN A SANDBOX (cutbox-rows.mjs): the forced cells as the released guide's own fill.sh prints them over the translation 918fc37e4d7627a8… (all of the seat's roots in one cut). By AI agents, Wed Nov 11 2026. No macro, syntax, notation, axiom, sorry.
-/
import Derived.Test.YtgkelddcklggnaaChecked
import GoSem.Claim
import GoSem.ClaimJoined
import GoSem.ClaimMapViews
import Derived.JoinedTies
import Derived.KernelRfl
namespace Go.Proofs.Ytgkelddcklggnaa
/- THE CELL 'sum', in the pinned program and in every row, IS THE sha256 OF THE DUMP (.gsa) THAT YtgkelddcklggnaaProg.lean LOADS. Nothing in Lean hashes anything: it is a label: what it is worth is what the hold of that sum in a sandbox is worth. -/
noncomputable def Try.pinned : Pinned := { name := "ytgkelddcklggnaa", sum := "918fc37e4d7627a854ac10c62dc63d3661d7b55e367d969305d56789716b3317", checked := Try.checked }
namespace Rows
def none {H : Type} : Left H := { results := [], args := [] }

/-- 'amortcostlaw01.RationalConverts': WHATEVER THE INPUT: true; the input reads as it did. -/
def rationalConvertsSpec : ChangeSpec := { name := "rationalConverts", fn := fun _ => fun
  | [d1, d2, d3, d4] => { results := [.lit (.bool true)], args := [d1, d2, d3, d4] }
  | _ => none }
def rationalConvertsRow : OpenClaim := { program := "ytgkelddcklggnaa", sum := "918fc37e4d7627a854ac10c62dc63d3661d7b55e367d969305d56789716b3317", func := "amortcost/amortcostlaw01.RationalConverts", spec := "rationalConverts", apart := false }
def RationalConvertsSaid : Prop := rationalConvertsRow.holds Try.pinned (OpenSpec.ofChange rationalConvertsSpec)

/-- ITS FALSE NEIGHBOUR: 'it returns false'. Refute it at one input. -/
def rationalConvertsWrong : ChangeSpec := { name := "rationalConverts", fn := fun _ => fun
  | [d1, d2, d3, d4] => { results := [.lit (.bool false)], args := [d1, d2, d3, d4] }
  | _ => none }
def RationalConvertsWrongFalsely : Prop := rationalConvertsRow.holds Try.pinned (OpenSpec.ofChange rationalConvertsWrong)

/-- 'amortcostlaw01.RationalMultiplies': WHATEVER THE INPUT: true; the input reads as it did. -/
def rationalMultipliesSpec : ChangeSpec := { name := "rationalMultiplies", fn := fun _ => fun
  | [d1, d2] => { results := [.lit (.bool true)], args := [d1, d2] }
  | _ => none }
def rationalMultipliesRow : OpenClaim := { program := "ytgkelddcklggnaa", sum := "918fc37e4d7627a854ac10c62dc63d3661d7b55e367d969305d56789716b3317", func := "amortcost/amortcostlaw01.RationalMultiplies", spec := "rationalMultiplies", apart := false }
def RationalMultipliesSaid : Prop := rationalMultipliesRow.holds Try.pinned (OpenSpec.ofChange rationalMultipliesSpec)

/-- ITS FALSE NEIGHBOUR: 'it returns false'. Refute it at one input. -/
def rationalMultipliesWrong : ChangeSpec := { name := "rationalMultiplies", fn := fun _ => fun
  | [d1, d2] => { results := [.lit (.bool false)], args := [d1, d2] }
  | _ => none }
def RationalMultipliesWrongFalsely : Prop := rationalMultipliesRow.holds Try.pinned (OpenSpec.ofChange rationalMultipliesWrong)

/-- 'amortcostlaw01.RationalRounds': WHATEVER THE INPUT: true; the input reads as it did. -/
def rationalRoundsSpec : ChangeSpec := { name := "rationalRounds", fn := fun _ => fun
  | [d] => { results := [.lit (.bool true)], args := [d] }
  | _ => none }
def rationalRoundsRow : OpenClaim := { program := "ytgkelddcklggnaa", sum := "918fc37e4d7627a854ac10c62dc63d3661d7b55e367d969305d56789716b3317", func := "amortcost/amortcostlaw01.RationalRounds", spec := "rationalRounds", apart := false }
def RationalRoundsSaid : Prop := rationalRoundsRow.holds Try.pinned (OpenSpec.ofChange rationalRoundsSpec)

/-- ITS FALSE NEIGHBOUR: 'it returns false'. Refute it at one input. -/
def rationalRoundsWrong : ChangeSpec := { name := "rationalRounds", fn := fun _ => fun
  | [d] => { results := [.lit (.bool false)], args := [d] }
  | _ => none }
def RationalRoundsWrongFalsely : Prop := rationalRoundsRow.holds Try.pinned (OpenSpec.ofChange rationalRoundsWrong)

/-- 'amortcostlaw01.RationalCompares': WHATEVER THE INPUT: true; the input reads as it did. -/
def rationalComparesSpec : ChangeSpec := { name := "rationalCompares", fn := fun _ => fun
  | [d1, d2] => { results := [.lit (.bool true)], args := [d1, d2] }
  | _ => none }
def rationalComparesRow : OpenClaim := { program := "ytgkelddcklggnaa", sum := "918fc37e4d7627a854ac10c62dc63d3661d7b55e367d969305d56789716b3317", func := "amortcost/amortcostlaw01.RationalCompares", spec := "rationalCompares", apart := false }
def RationalComparesSaid : Prop := rationalComparesRow.holds Try.pinned (OpenSpec.ofChange rationalComparesSpec)

/-- ITS FALSE NEIGHBOUR: 'it returns false'. Refute it at one input. -/
def rationalComparesWrong : ChangeSpec := { name := "rationalCompares", fn := fun _ => fun
  | [d1, d2] => { results := [.lit (.bool false)], args := [d1, d2] }
  | _ => none }
def RationalComparesWrongFalsely : Prop := rationalComparesRow.holds Try.pinned (OpenSpec.ofChange rationalComparesWrong)

/-- 'amortcostlaw01.RationalSums': WHATEVER THE INPUT: true; the input reads as it did. -/
def rationalSumsSpec : ChangeSpec := { name := "rationalSums", fn := fun _ => fun
  | [d] => { results := [.lit (.bool true)], args := [d] }
  | _ => none }
def rationalSumsRow : OpenClaim := { program := "ytgkelddcklggnaa", sum := "918fc37e4d7627a854ac10c62dc63d3661d7b55e367d969305d56789716b3317", func := "amortcost/amortcostlaw01.RationalSums", spec := "rationalSums", apart := false }
def RationalSumsSaid : Prop := rationalSumsRow.holds Try.pinned (OpenSpec.ofChange rationalSumsSpec)

/-- ITS FALSE NEIGHBOUR: 'it returns false'. Refute it at one input. -/
def rationalSumsWrong : ChangeSpec := { name := "rationalSums", fn := fun _ => fun
  | [d] => { results := [.lit (.bool false)], args := [d] }
  | _ => none }
def RationalSumsWrongFalsely : Prop := rationalSumsRow.holds Try.pinned (OpenSpec.ofChange rationalSumsWrong)

/-- 'amortcostlaw01.RationalAdds': WHATEVER THE INPUT: true; the input reads as it did. -/
def rationalAddsSpec : ChangeSpec := { name := "rationalAdds", fn := fun _ => fun
  | [d1, d2] => { results := [.lit (.bool true)], args := [d1, d2] }
  | _ => none }
def rationalAddsRow : OpenClaim := { program := "ytgkelddcklggnaa", sum := "918fc37e4d7627a854ac10c62dc63d3661d7b55e367d969305d56789716b3317", func := "amortcost/amortcostlaw01.RationalAdds", spec := "rationalAdds", apart := false }
def RationalAddsSaid : Prop := rationalAddsRow.holds Try.pinned (OpenSpec.ofChange rationalAddsSpec)

/-- ITS FALSE NEIGHBOUR: 'it returns false'. Refute it at one input. -/
def rationalAddsWrong : ChangeSpec := { name := "rationalAdds", fn := fun _ => fun
  | [d1, d2] => { results := [.lit (.bool false)], args := [d1, d2] }
  | _ => none }
def RationalAddsWrongFalsely : Prop := rationalAddsRow.holds Try.pinned (OpenSpec.ofChange rationalAddsWrong)

/- THE SECOND FORM. 'bulk': how many values and letters a reading holds, each counted each time it is reached (what is shared counts as often as it is met; a slice's spare places count too). A statement '..UptoSaid' is the law's where the arguments, and the package variables that the reading takes, are together of bulk at most 1048576: NARROWER than '..Said'. Prove '..Said' where nothing that the law and all that it calls make is longer than what came in: it says more and counts as full. Else prove '..UptoSaid'. A law counts once. -/
mutual
def uptoBulk {H : Type} : DataW H → Nat
  | .lit (.string bytes) => bytes.length + 1
  | .lit _ => 1
  | .nil => 1
  | .ptr d => uptoBulk d + 1
  | .slice elems spare => uptoBulkAll elems + uptoBulkAll spare + 1
  | .agg parts => uptoBulkAll parts + 1
  | .iface _ d => uptoBulk d + 1
  | .map entries => uptoBulkEntries entries + 1
  | .held _ => 1
def uptoBulkAll {H : Type} : List (DataW H) → Nat
  | [] => 0
  | d :: r => uptoBulk d + uptoBulkAll r
def uptoBulkEntries {H : Type} : List (Lit × DataW H) → Nat
  | [] => 0
  | x :: r => uptoBulkEntry x + uptoBulkEntries r
def uptoBulkEntry {H : Type} : Lit × DataW H → Nat
  | (.string bytes, d) => bytes.length + uptoBulk d + 1
  | (_, d) => uptoBulk d + 1
 end
def uptoSmall : (H : Type) → List (DataW H) → Bool := fun _ ds => decide (uptoBulkAll ds ≤ 1048576)
def OpenSpec.upto (s : _root_.Go.ChangeSpec) : _root_.Go.OpenSpec := { _root_.Go.OpenSpec.ofChange s with cond := some uptoSmall }

/-- 'amortcostlaw01.RationalConverts', WHERE WHAT IT READS IS OF BULK AT MOST 1048576: true; the input reads as it did. -/
def rationalConvertsUptoRow : OpenClaim := { program := "ytgkelddcklggnaa", sum := "918fc37e4d7627a854ac10c62dc63d3661d7b55e367d969305d56789716b3317", func := "amortcost/amortcostlaw01.RationalConverts", spec := "rationalConverts", apart := false, narrowed := true }
def RationalConvertsUptoSaid : Prop := rationalConvertsUptoRow.holds Try.pinned (OpenSpec.upto rationalConvertsSpec)

/-- 'amortcostlaw01.RationalMultiplies', WHERE WHAT IT READS IS OF BULK AT MOST 1048576: true; the input reads as it did. -/
def rationalMultipliesUptoRow : OpenClaim := { program := "ytgkelddcklggnaa", sum := "918fc37e4d7627a854ac10c62dc63d3661d7b55e367d969305d56789716b3317", func := "amortcost/amortcostlaw01.RationalMultiplies", spec := "rationalMultiplies", apart := false, narrowed := true }
def RationalMultipliesUptoSaid : Prop := rationalMultipliesUptoRow.holds Try.pinned (OpenSpec.upto rationalMultipliesSpec)

/-- 'amortcostlaw01.RationalRounds', WHERE WHAT IT READS IS OF BULK AT MOST 1048576: true; the input reads as it did. -/
def rationalRoundsUptoRow : OpenClaim := { program := "ytgkelddcklggnaa", sum := "918fc37e4d7627a854ac10c62dc63d3661d7b55e367d969305d56789716b3317", func := "amortcost/amortcostlaw01.RationalRounds", spec := "rationalRounds", apart := false, narrowed := true }
def RationalRoundsUptoSaid : Prop := rationalRoundsUptoRow.holds Try.pinned (OpenSpec.upto rationalRoundsSpec)

/-- 'amortcostlaw01.RationalCompares', WHERE WHAT IT READS IS OF BULK AT MOST 1048576: true; the input reads as it did. -/
def rationalComparesUptoRow : OpenClaim := { program := "ytgkelddcklggnaa", sum := "918fc37e4d7627a854ac10c62dc63d3661d7b55e367d969305d56789716b3317", func := "amortcost/amortcostlaw01.RationalCompares", spec := "rationalCompares", apart := false, narrowed := true }
def RationalComparesUptoSaid : Prop := rationalComparesUptoRow.holds Try.pinned (OpenSpec.upto rationalComparesSpec)

/-- 'amortcostlaw01.RationalSums', WHERE WHAT IT READS IS OF BULK AT MOST 1048576: true; the input reads as it did. -/
def rationalSumsUptoRow : OpenClaim := { program := "ytgkelddcklggnaa", sum := "918fc37e4d7627a854ac10c62dc63d3661d7b55e367d969305d56789716b3317", func := "amortcost/amortcostlaw01.RationalSums", spec := "rationalSums", apart := false, narrowed := true }
def RationalSumsUptoSaid : Prop := rationalSumsUptoRow.holds Try.pinned (OpenSpec.upto rationalSumsSpec)

/-- 'amortcostlaw01.RationalAdds', WHERE WHAT IT READS IS OF BULK AT MOST 1048576: true; the input reads as it did. -/
def rationalAddsUptoRow : OpenClaim := { program := "ytgkelddcklggnaa", sum := "918fc37e4d7627a854ac10c62dc63d3661d7b55e367d969305d56789716b3317", func := "amortcost/amortcostlaw01.RationalAdds", spec := "rationalAdds", apart := false, narrowed := true }
def RationalAddsUptoSaid : Prop := rationalAddsUptoRow.holds Try.pinned (OpenSpec.upto rationalAddsSpec)

end Rows
end Go.Proofs.Ytgkelddcklggnaa

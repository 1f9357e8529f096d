/-
  No cell of these rows narrows 'for every input' (looked for: loops, veiled, ifaces, maps, wideKeys, modest, calm, conditions, laid).
  DERIVED. THE GIVEN ROWS OF THIS SEAT. 9 by the template 'for every input the law returns true; each argument reads behind the call as it read before'; 0 by the template 'total and deterministic' (their statements: YtnaeabkknmoaeaaTotals.lean).
  GIVEN WITH THE SEED: the statements are not yours to turn. If you find one false, say at which input.
  Laid BY PROGRAM, IN A SANDBOX (cutbox-rows.mjs): the forced cells as the released guide's own fill.sh prints them over the translation dc388fc520904836… (all of the seat's roots in one cut). By AI agents, Wed Nov 11 2026. No macro, syntax, notation, axiom, sorry.
-/
import Derived.Test.YtnaeabkknmoaeaaChecked
import GoSem.Claim
import GoSem.ClaimJoined
import GoSem.ClaimMapViews
import Derived.JoinedTies
import Derived.KernelRfl
namespace Go.Proofs.Ytnaeabkknmoaeaa
/- THE CELL 'sum', in the pinned program and in every row, IS THE sha256 OF THE DUMP (.gsa) THAT YtnaeabkknmoaeaaProg.lean LOADS. Nothing in Lean hashes anything: it is a label: what it is worth is what the hold of that sum in a sandbox is worth. -/
noncomputable def Try.pinned : Pinned := { name := "ytnaeabkknmoaeaa", sum := "dc388fc520904836ce7ee0cdae1b3a51961fd13f2a16fdf8d41d4e34fd0f3365", checked := Try.checked }
namespace Rows
def none {H : Type} : Left H := { results := [], args := [] }

/-- 'amortcostlaw11.MetricFolds': WHATEVER THE INPUT: true; the input reads as it did. -/
def metricFoldsSpec : ChangeSpec := { name := "metricFolds", fn := fun _ => fun
  | [d] => { results := [.lit (.bool true)], args := [d] }
  | _ => none }
def metricFoldsRow : OpenClaim := { program := "ytnaeabkknmoaeaa", sum := "dc388fc520904836ce7ee0cdae1b3a51961fd13f2a16fdf8d41d4e34fd0f3365", func := "amortcost/amortcostlaw11.MetricFolds", spec := "metricFolds", unfollowed := true, recurses := true, apart := false }
def MetricFoldsSaid : Prop := metricFoldsRow.holds Try.pinned (OpenSpec.ofChange metricFoldsSpec)

/-- ITS FALSE NEIGHBOUR: 'it returns false'. Refute it at one input. -/
def metricFoldsWrong : ChangeSpec := { name := "metricFolds", fn := fun _ => fun
  | [d] => { results := [.lit (.bool false)], args := [d] }
  | _ => none }
def MetricFoldsWrongFalsely : Prop := metricFoldsRow.holds Try.pinned (OpenSpec.ofChange metricFoldsWrong)

/-- 'amortcostlaw11.MetricLimits': WHATEVER THE INPUT: true; the input reads as it did. -/
def metricLimitsSpec : ChangeSpec := { name := "metricLimits", fn := fun _ => fun
  | [d] => { results := [.lit (.bool true)], args := [d] }
  | _ => none }
def metricLimitsRow : OpenClaim := { program := "ytnaeabkknmoaeaa", sum := "dc388fc520904836ce7ee0cdae1b3a51961fd13f2a16fdf8d41d4e34fd0f3365", func := "amortcost/amortcostlaw11.MetricLimits", spec := "metricLimits", apart := false }
def MetricLimitsSaid : Prop := metricLimitsRow.holds Try.pinned (OpenSpec.ofChange metricLimitsSpec)

/-- ITS FALSE NEIGHBOUR: 'it returns false'. Refute it at one input. -/
def metricLimitsWrong : ChangeSpec := { name := "metricLimits", fn := fun _ => fun
  | [d] => { results := [.lit (.bool false)], args := [d] }
  | _ => none }
def MetricLimitsWrongFalsely : Prop := metricLimitsRow.holds Try.pinned (OpenSpec.ofChange metricLimitsWrong)

/-- 'amortcostlaw11.MetricCosts': WHATEVER THE INPUT: true; the input reads as it did. -/
def metricCostsSpec : ChangeSpec := { name := "metricCosts", fn := fun _ => fun
  | [d1, d2, d3] => { results := [.lit (.bool true)], args := [d1, d2, d3] }
  | _ => none }
def metricCostsRow : OpenClaim := { program := "ytnaeabkknmoaeaa", sum := "dc388fc520904836ce7ee0cdae1b3a51961fd13f2a16fdf8d41d4e34fd0f3365", func := "amortcost/amortcostlaw11.MetricCosts", spec := "metricCosts", apart := false }
def MetricCostsSaid : Prop := metricCostsRow.holds Try.pinned (OpenSpec.ofChange metricCostsSpec)

/-- ITS FALSE NEIGHBOUR: 'it returns false'. Refute it at one input. -/
def metricCostsWrong : ChangeSpec := { name := "metricCosts", fn := fun _ => fun
  | [d1, d2, d3] => { results := [.lit (.bool false)], args := [d1, d2, d3] }
  | _ => none }
def MetricCostsWrongFalsely : Prop := metricCostsRow.holds Try.pinned (OpenSpec.ofChange metricCostsWrong)

/-- 'amortcostlaw11.MetricMonoid': WHATEVER THE INPUT: true; the input reads as it did. -/
def metricMonoidSpec : ChangeSpec := { name := "metricMonoid", fn := fun _ => fun
  | [d1, d2, d3] => { results := [.lit (.bool true)], args := [d1, d2, d3] }
  | _ => none }
def metricMonoidRow : OpenClaim := { program := "ytnaeabkknmoaeaa", sum := "dc388fc520904836ce7ee0cdae1b3a51961fd13f2a16fdf8d41d4e34fd0f3365", func := "amortcost/amortcostlaw11.MetricMonoid", spec := "metricMonoid", apart := false }
def MetricMonoidSaid : Prop := metricMonoidRow.holds Try.pinned (OpenSpec.ofChange metricMonoidSpec)

/-- ITS FALSE NEIGHBOUR: 'it returns false'. Refute it at one input. -/
def metricMonoidWrong : ChangeSpec := { name := "metricMonoid", fn := fun _ => fun
  | [d1, d2, d3] => { results := [.lit (.bool false)], args := [d1, d2, d3] }
  | _ => none }
def MetricMonoidWrongFalsely : Prop := metricMonoidRow.holds Try.pinned (OpenSpec.ofChange metricMonoidWrong)

/-- 'amortcostlaw11.MetricRows': WHATEVER THE INPUT: true; the input reads as it did. -/
def metricRowsSpec : ChangeSpec := { name := "metricRows", fn := fun _ => fun
  | [d1, d2] => { results := [.lit (.bool true)], args := [d1, d2] }
  | _ => none }
def metricRowsRow : OpenClaim := { program := "ytnaeabkknmoaeaa", sum := "dc388fc520904836ce7ee0cdae1b3a51961fd13f2a16fdf8d41d4e34fd0f3365", func := "amortcost/amortcostlaw11.MetricRows", spec := "metricRows", unfollowed := true, recurses := true, apart := false }
def MetricRowsSaid : Prop := metricRowsRow.holds Try.pinned (OpenSpec.ofChange metricRowsSpec)

/-- ITS FALSE NEIGHBOUR: 'it returns false'. Refute it at one input. -/
def metricRowsWrong : ChangeSpec := { name := "metricRows", fn := fun _ => fun
  | [d1, d2] => { results := [.lit (.bool false)], args := [d1, d2] }
  | _ => none }
def MetricRowsWrongFalsely : Prop := metricRowsRow.holds Try.pinned (OpenSpec.ofChange metricRowsWrong)

/-- 'amortcostlaw11.MetricPeaks': WHATEVER THE INPUT: true; the input reads as it did. -/
def metricPeaksSpec : ChangeSpec := { name := "metricPeaks", fn := fun _ => fun
  | [d1, d2] => { results := [.lit (.bool true)], args := [d1, d2] }
  | _ => none }
def metricPeaksRow : OpenClaim := { program := "ytnaeabkknmoaeaa", sum := "dc388fc520904836ce7ee0cdae1b3a51961fd13f2a16fdf8d41d4e34fd0f3365", func := "amortcost/amortcostlaw11.MetricPeaks", spec := "metricPeaks", unfollowed := true, recurses := true, apart := false }
def MetricPeaksSaid : Prop := metricPeaksRow.holds Try.pinned (OpenSpec.ofChange metricPeaksSpec)

/-- ITS FALSE NEIGHBOUR: 'it returns false'. Refute it at one input. -/
def metricPeaksWrong : ChangeSpec := { name := "metricPeaks", fn := fun _ => fun
  | [d1, d2] => { results := [.lit (.bool false)], args := [d1, d2] }
  | _ => none }
def MetricPeaksWrongFalsely : Prop := metricPeaksRow.holds Try.pinned (OpenSpec.ofChange metricPeaksWrong)

/-- 'amortcostlaw11.MetricCombines': WHATEVER THE INPUT: true; the input reads as it did. -/
def metricCombinesSpec : ChangeSpec := { name := "metricCombines", fn := fun _ => fun
  | [d1, d2] => { results := [.lit (.bool true)], args := [d1, d2] }
  | _ => none }
def metricCombinesRow : OpenClaim := { program := "ytnaeabkknmoaeaa", sum := "dc388fc520904836ce7ee0cdae1b3a51961fd13f2a16fdf8d41d4e34fd0f3365", func := "amortcost/amortcostlaw11.MetricCombines", spec := "metricCombines", apart := false }
def MetricCombinesSaid : Prop := metricCombinesRow.holds Try.pinned (OpenSpec.ofChange metricCombinesSpec)

/-- ITS FALSE NEIGHBOUR: 'it returns false'. Refute it at one input. -/
def metricCombinesWrong : ChangeSpec := { name := "metricCombines", fn := fun _ => fun
  | [d1, d2] => { results := [.lit (.bool false)], args := [d1, d2] }
  | _ => none }
def MetricCombinesWrongFalsely : Prop := metricCombinesRow.holds Try.pinned (OpenSpec.ofChange metricCombinesWrong)

/-- 'amortcostlaw11.MetricLinear': WHATEVER THE INPUT: true; the input reads as it did. -/
def metricLinearSpec : ChangeSpec := { name := "metricLinear", fn := fun _ => fun
  | [d1, d2, d3, d4, d5, d6] => { results := [.lit (.bool true)], args := [d1, d2, d3, d4, d5, d6] }
  | _ => none }
def metricLinearRow : OpenClaim := { program := "ytnaeabkknmoaeaa", sum := "dc388fc520904836ce7ee0cdae1b3a51961fd13f2a16fdf8d41d4e34fd0f3365", func := "amortcost/amortcostlaw11.MetricLinear", spec := "metricLinear", apart := false }
def MetricLinearSaid : Prop := metricLinearRow.holds Try.pinned (OpenSpec.ofChange metricLinearSpec)

/-- ITS FALSE NEIGHBOUR: 'it returns false'. Refute it at one input. -/
def metricLinearWrong : ChangeSpec := { name := "metricLinear", fn := fun _ => fun
  | [d1, d2, d3, d4, d5, d6] => { results := [.lit (.bool false)], args := [d1, d2, d3, d4, d5, d6] }
  | _ => none }
def MetricLinearWrongFalsely : Prop := metricLinearRow.holds Try.pinned (OpenSpec.ofChange metricLinearWrong)

/-- 'amortcostlaw11.MetricNamed': WHATEVER THE INPUT: true; the input reads as it did. -/
def metricNamedSpec : ChangeSpec := { name := "metricNamed", fn := fun _ => fun
  | [] => { results := [.lit (.bool true)], args := [] }
  | _ => none }
def metricNamedRow : OpenClaim := { program := "ytnaeabkknmoaeaa", sum := "dc388fc520904836ce7ee0cdae1b3a51961fd13f2a16fdf8d41d4e34fd0f3365", func := "amortcost/amortcostlaw11.MetricNamed", spec := "metricNamed", apart := false }
def MetricNamedSaid : Prop := metricNamedRow.holds Try.pinned (OpenSpec.ofChange metricNamedSpec)

/-- ITS FALSE NEIGHBOUR: 'it returns false'. Refute it at one input. -/
def metricNamedWrong : ChangeSpec := { name := "metricNamed", fn := fun _ => fun
  | [] => { results := [.lit (.bool false)], args := [] }
  | _ => none }
def MetricNamedWrongFalsely : Prop := metricNamedRow.holds Try.pinned (OpenSpec.ofChange metricNamedWrong)

/- THE SECOND FORM. 'bulk': how many values and letters a reading holds, each counted each time it is reached (what is shared counts as often as it is met; a slice's spare places count too). A statement '..UptoSaid' is the law's where the arguments, and the package variables that the reading takes, are together of bulk at most 1048576: NARROWER than '..Said'. Prove '..Said' where nothing that the law and all that it calls make is longer than what came in: it says more and counts as full. Else prove '..UptoSaid'. A law counts once. -/
mutual
def uptoBulk {H : Type} : DataW H → Nat
  | .lit (.string bytes) => bytes.length + 1
  | .lit _ => 1
  | .nil => 1
  | .ptr d => uptoBulk d + 1
  | .slice elems spare => uptoBulkAll elems + uptoBulkAll spare + 1
  | .agg parts => uptoBulkAll parts + 1
  | .iface _ d => uptoBulk d + 1
  | .map entries => uptoBulkEntries entries + 1
  | .held _ => 1
def uptoBulkAll {H : Type} : List (DataW H) → Nat
  | [] => 0
  | d :: r => uptoBulk d + uptoBulkAll r
def uptoBulkEntries {H : Type} : List (Lit × DataW H) → Nat
  | [] => 0
  | x :: r => uptoBulkEntry x + uptoBulkEntries r
def uptoBulkEntry {H : Type} : Lit × DataW H → Nat
  | (.string bytes, d) => bytes.length + uptoBulk d + 1
  | (_, d) => uptoBulk d + 1
 end
def uptoSmall : (H : Type) → List (DataW H) → Bool := fun _ ds => decide (uptoBulkAll ds ≤ 1048576)
def OpenSpec.upto (s : _root_.Go.ChangeSpec) : _root_.Go.OpenSpec := { _root_.Go.OpenSpec.ofChange s with cond := some uptoSmall }

/-- 'amortcostlaw11.MetricFolds', WHERE WHAT IT READS IS OF BULK AT MOST 1048576: true; the input reads as it did. -/
def metricFoldsUptoRow : OpenClaim := { program := "ytnaeabkknmoaeaa", sum := "dc388fc520904836ce7ee0cdae1b3a51961fd13f2a16fdf8d41d4e34fd0f3365", func := "amortcost/amortcostlaw11.MetricFolds", spec := "metricFolds", unfollowed := true, recurses := true, apart := false, narrowed := true }
def MetricFoldsUptoSaid : Prop := metricFoldsUptoRow.holds Try.pinned (OpenSpec.upto metricFoldsSpec)

/-- 'amortcostlaw11.MetricLimits', WHERE WHAT IT READS IS OF BULK AT MOST 1048576: true; the input reads as it did. -/
def metricLimitsUptoRow : OpenClaim := { program := "ytnaeabkknmoaeaa", sum := "dc388fc520904836ce7ee0cdae1b3a51961fd13f2a16fdf8d41d4e34fd0f3365", func := "amortcost/amortcostlaw11.MetricLimits", spec := "metricLimits", apart := false, narrowed := true }
def MetricLimitsUptoSaid : Prop := metricLimitsUptoRow.holds Try.pinned (OpenSpec.upto metricLimitsSpec)

/-- 'amortcostlaw11.MetricCosts', WHERE WHAT IT READS IS OF BULK AT MOST 1048576: true; the input reads as it did. -/
def metricCostsUptoRow : OpenClaim := { program := "ytnaeabkknmoaeaa", sum := "dc388fc520904836ce7ee0cdae1b3a51961fd13f2a16fdf8d41d4e34fd0f3365", func := "amortcost/amortcostlaw11.MetricCosts", spec := "metricCosts", apart := false, narrowed := true }
def MetricCostsUptoSaid : Prop := metricCostsUptoRow.holds Try.pinned (OpenSpec.upto metricCostsSpec)

/-- 'amortcostlaw11.MetricMonoid', WHERE WHAT IT READS IS OF BULK AT MOST 1048576: true; the input reads as it did. -/
def metricMonoidUptoRow : OpenClaim := { program := "ytnaeabkknmoaeaa", sum := "dc388fc520904836ce7ee0cdae1b3a51961fd13f2a16fdf8d41d4e34fd0f3365", func := "amortcost/amortcostlaw11.MetricMonoid", spec := "metricMonoid", apart := false, narrowed := true }
def MetricMonoidUptoSaid : Prop := metricMonoidUptoRow.holds Try.pinned (OpenSpec.upto metricMonoidSpec)

/-- 'amortcostlaw11.MetricRows', WHERE WHAT IT READS IS OF BULK AT MOST 1048576: true; the input reads as it did. -/
def metricRowsUptoRow : OpenClaim := { program := "ytnaeabkknmoaeaa", sum := "dc388fc520904836ce7ee0cdae1b3a51961fd13f2a16fdf8d41d4e34fd0f3365", func := "amortcost/amortcostlaw11.MetricRows", spec := "metricRows", unfollowed := true, recurses := true, apart := false, narrowed := true }
def MetricRowsUptoSaid : Prop := metricRowsUptoRow.holds Try.pinned (OpenSpec.upto metricRowsSpec)

/-- 'amortcostlaw11.MetricPeaks', WHERE WHAT IT READS IS OF BULK AT MOST 1048576: true; the input reads as it did. -/
def metricPeaksUptoRow : OpenClaim := { program := "ytnaeabkknmoaeaa", sum := "dc388fc520904836ce7ee0cdae1b3a51961fd13f2a16fdf8d41d4e34fd0f3365", func := "amortcost/amortcostlaw11.MetricPeaks", spec := "metricPeaks", unfollowed := true, recurses := true, apart := false, narrowed := true }
def MetricPeaksUptoSaid : Prop := metricPeaksUptoRow.holds Try.pinned (OpenSpec.upto metricPeaksSpec)

/-- 'amortcostlaw11.MetricCombines', WHERE WHAT IT READS IS OF BULK AT MOST 1048576: true; the input reads as it did. -/
def metricCombinesUptoRow : OpenClaim := { program := "ytnaeabkknmoaeaa", sum := "dc388fc520904836ce7ee0cdae1b3a51961fd13f2a16fdf8d41d4e34fd0f3365", func := "amortcost/amortcostlaw11.MetricCombines", spec := "metricCombines", apart := false, narrowed := true }
def MetricCombinesUptoSaid : Prop := metricCombinesUptoRow.holds Try.pinned (OpenSpec.upto metricCombinesSpec)

/-- 'amortcostlaw11.MetricLinear', WHERE WHAT IT READS IS OF BULK AT MOST 1048576: true; the input reads as it did. -/
def metricLinearUptoRow : OpenClaim := { program := "ytnaeabkknmoaeaa", sum := "dc388fc520904836ce7ee0cdae1b3a51961fd13f2a16fdf8d41d4e34fd0f3365", func := "amortcost/amortcostlaw11.MetricLinear", spec := "metricLinear", apart := false, narrowed := true }
def MetricLinearUptoSaid : Prop := metricLinearUptoRow.holds Try.pinned (OpenSpec.upto metricLinearSpec)

/-- 'amortcostlaw11.MetricNamed', WHERE WHAT IT READS IS OF BULK AT MOST 1048576: true; the input reads as it did. -/
def metricNamedUptoRow : OpenClaim := { program := "ytnaeabkknmoaeaa", sum := "dc388fc520904836ce7ee0cdae1b3a51961fd13f2a16fdf8d41d4e34fd0f3365", func := "amortcost/amortcostlaw11.MetricNamed", spec := "metricNamed", apart := false, narrowed := true }
def MetricNamedUptoSaid : Prop := metricNamedUptoRow.holds Try.pinned (OpenSpec.upto metricNamedSpec)

end Rows
end Go.Proofs.Ytnaeabkknmoaeaa

/-
  No cell of these rows narrows 'for every input' (looked for: loops, veiled, ifaces, maps, wideKeys, modest, calm, conditions, laid).
  DERIVED. THE GIVEN ROWS OF THIS SEAT. 4 by the template 'for every input the law returns true; each argument reads behind the call as it read before'; 0 by the template 'total and deterministic' (their statements: YtfcmjlbfoindaaaTotals.lean).
  GIVEN WITH THE SEED: the statements are not yours to turn. If you find one false, say at which input.
  Laid BY PROGRAM, IN A SANDBOX (cutbox-rows.mjs): the forced cells as the released guide's own fill.sh prints them over the translation 374538fba4b3abfc… (all of the seat's roots in one cut). By AI agents, Wed Nov 11 2026. No macro, syntax, notation, axiom, sorry.
-/
import Derived.Test.YtfcmjlbfoindaaaChecked
import GoSem.Claim
import GoSem.ClaimJoined
import GoSem.ClaimMapViews
import Derived.JoinedTies
import Derived.KernelRfl
namespace Go.Proofs.Ytfcmjlbfoindaaa
/- THE CELL 'sum', in the pinned program and in every row, IS THE sha256 OF THE DUMP (.gsa) THAT YtfcmjlbfoindaaaProg.lean LOADS. Nothing in Lean hashes anything: it is a label: what it is worth is what the hold of that sum in a sandbox is worth. -/
noncomputable def Try.pinned : Pinned := { name := "ytfcmjlbfoindaaa", sum := "374538fba4b3abfcf2fc699b0f65ebecf6b23add1cb0328fd23f739093a5d0da", checked := Try.checked }
namespace Rows
def none {H : Type} : Left H := { results := [], args := [] }

/-- 'fingerpostlaw31.BudgetLines': WHATEVER THE INPUT: true; the input reads as it did. -/
def budgetLinesSpec : ChangeSpec := { name := "budgetLines", fn := fun _ => fun
  | [d1, d2, d3] => { results := [.lit (.bool true)], args := [d1, d2, d3] }
  | _ => none }
def budgetLinesRow : OpenClaim := { program := "ytfcmjlbfoindaaa", sum := "374538fba4b3abfcf2fc699b0f65ebecf6b23add1cb0328fd23f739093a5d0da", func := "fingerpost/fingerpostlaw31.BudgetLines", spec := "budgetLines", apart := false }
def BudgetLinesSaid : Prop := budgetLinesRow.holds Try.pinned (OpenSpec.ofChange budgetLinesSpec)

/-- ITS FALSE NEIGHBOUR: 'it returns false'. Refute it at one input. -/
def budgetLinesWrong : ChangeSpec := { name := "budgetLines", fn := fun _ => fun
  | [d1, d2, d3] => { results := [.lit (.bool false)], args := [d1, d2, d3] }
  | _ => none }
def BudgetLinesWrongFalsely : Prop := budgetLinesRow.holds Try.pinned (OpenSpec.ofChange budgetLinesWrong)

/-- 'fingerpostlaw31.BudgetTicks': WHATEVER THE INPUT: true; the input reads as it did. -/
def budgetTicksSpec : ChangeSpec := { name := "budgetTicks", fn := fun _ => fun
  | [d1, d2, d3, d4] => { results := [.lit (.bool true)], args := [d1, d2, d3, d4] }
  | _ => none }
def budgetTicksRow : OpenClaim := { program := "ytfcmjlbfoindaaa", sum := "374538fba4b3abfcf2fc699b0f65ebecf6b23add1cb0328fd23f739093a5d0da", func := "fingerpost/fingerpostlaw31.BudgetTicks", spec := "budgetTicks", apart := false }
def BudgetTicksSaid : Prop := budgetTicksRow.holds Try.pinned (OpenSpec.ofChange budgetTicksSpec)

/-- ITS FALSE NEIGHBOUR: 'it returns false'. Refute it at one input. -/
def budgetTicksWrong : ChangeSpec := { name := "budgetTicks", fn := fun _ => fun
  | [d1, d2, d3, d4] => { results := [.lit (.bool false)], args := [d1, d2, d3, d4] }
  | _ => none }
def BudgetTicksWrongFalsely : Prop := budgetTicksRow.holds Try.pinned (OpenSpec.ofChange budgetTicksWrong)

/-- 'fingerpostlaw31.BudgetSizes': WHATEVER THE INPUT: true; the input reads as it did. -/
def budgetSizesSpec : ChangeSpec := { name := "budgetSizes", fn := fun _ => fun
  | [d1, d2, d3] => { results := [.lit (.bool true)], args := [d1, d2, d3] }
  | _ => none }
def budgetSizesRow : OpenClaim := { program := "ytfcmjlbfoindaaa", sum := "374538fba4b3abfcf2fc699b0f65ebecf6b23add1cb0328fd23f739093a5d0da", func := "fingerpost/fingerpostlaw31.BudgetSizes", spec := "budgetSizes", apart := false }
def BudgetSizesSaid : Prop := budgetSizesRow.holds Try.pinned (OpenSpec.ofChange budgetSizesSpec)

/-- ITS FALSE NEIGHBOUR: 'it returns false'. Refute it at one input. -/
def budgetSizesWrong : ChangeSpec := { name := "budgetSizes", fn := fun _ => fun
  | [d1, d2, d3] => { results := [.lit (.bool false)], args := [d1, d2, d3] }
  | _ => none }
def BudgetSizesWrongFalsely : Prop := budgetSizesRow.holds Try.pinned (OpenSpec.ofChange budgetSizesWrong)

/-- 'fingerpostlaw31.BudgetPays': WHATEVER THE INPUT: true; the input reads as it did. -/
def budgetPaysSpec : ChangeSpec := { name := "budgetPays", fn := fun _ => fun
  | [d1, d2, d3] => { results := [.lit (.bool true)], args := [d1, d2, d3] }
  | _ => none }
def budgetPaysRow : OpenClaim := { program := "ytfcmjlbfoindaaa", sum := "374538fba4b3abfcf2fc699b0f65ebecf6b23add1cb0328fd23f739093a5d0da", func := "fingerpost/fingerpostlaw31.BudgetPays", spec := "budgetPays", apart := false }
def BudgetPaysSaid : Prop := budgetPaysRow.holds Try.pinned (OpenSpec.ofChange budgetPaysSpec)

/-- ITS FALSE NEIGHBOUR: 'it returns false'. Refute it at one input. -/
def budgetPaysWrong : ChangeSpec := { name := "budgetPays", fn := fun _ => fun
  | [d1, d2, d3] => { results := [.lit (.bool false)], args := [d1, d2, d3] }
  | _ => none }
def BudgetPaysWrongFalsely : Prop := budgetPaysRow.holds Try.pinned (OpenSpec.ofChange budgetPaysWrong)

/- THE SECOND FORM. 'bulk': how many values and letters a reading holds, each counted each time it is reached (what is shared counts as often as it is met; a slice's spare places count too). A statement '..UptoSaid' is the law's where the arguments, and the package variables that the reading takes, are together of bulk at most 1048576: NARROWER than '..Said'. Prove '..Said' where nothing that the law and all that it calls make is longer than what came in: it says more and counts as full. Else prove '..UptoSaid'. A law counts once. -/
mutual
def uptoBulk {H : Type} : DataW H → Nat
  | .lit (.string bytes) => bytes.length + 1
  | .lit _ => 1
  | .nil => 1
  | .ptr d => uptoBulk d + 1
  | .slice elems spare => uptoBulkAll elems + uptoBulkAll spare + 1
  | .agg parts => uptoBulkAll parts + 1
  | .iface _ d => uptoBulk d + 1
  | .map entries => uptoBulkEntries entries + 1
  | .held _ => 1
def uptoBulkAll {H : Type} : List (DataW H) → Nat
  | [] => 0
  | d :: r => uptoBulk d + uptoBulkAll r
def uptoBulkEntries {H : Type} : List (Lit × DataW H) → Nat
  | [] => 0
  | x :: r => uptoBulkEntry x + uptoBulkEntries r
def uptoBulkEntry {H : Type} : Lit × DataW H → Nat
  | (.string bytes, d) => bytes.length + uptoBulk d + 1
  | (_, d) => uptoBulk d + 1
 end
def uptoSmall : (H : Type) → List (DataW H) → Bool := fun _ ds => decide (uptoBulkAll ds ≤ 1048576)
def OpenSpec.upto (s : _root_.Go.ChangeSpec) : _root_.Go.OpenSpec := { _root_.Go.OpenSpec.ofChange s with cond := some uptoSmall }

/-- 'fingerpostlaw31.BudgetLines', WHERE WHAT IT READS IS OF BULK AT MOST 1048576: true; the input reads as it did. -/
def budgetLinesUptoRow : OpenClaim := { program := "ytfcmjlbfoindaaa", sum := "374538fba4b3abfcf2fc699b0f65ebecf6b23add1cb0328fd23f739093a5d0da", func := "fingerpost/fingerpostlaw31.BudgetLines", spec := "budgetLines", apart := false, narrowed := true }
def BudgetLinesUptoSaid : Prop := budgetLinesUptoRow.holds Try.pinned (OpenSpec.upto budgetLinesSpec)

/-- 'fingerpostlaw31.BudgetTicks', WHERE WHAT IT READS IS OF BULK AT MOST 1048576: true; the input reads as it did. -/
def budgetTicksUptoRow : OpenClaim := { program := "ytfcmjlbfoindaaa", sum := "374538fba4b3abfcf2fc699b0f65ebecf6b23add1cb0328fd23f739093a5d0da", func := "fingerpost/fingerpostlaw31.BudgetTicks", spec := "budgetTicks", apart := false, narrowed := true }
def BudgetTicksUptoSaid : Prop := budgetTicksUptoRow.holds Try.pinned (OpenSpec.upto budgetTicksSpec)

/-- 'fingerpostlaw31.BudgetSizes', WHERE WHAT IT READS IS OF BULK AT MOST 1048576: true; the input reads as it did. -/
def budgetSizesUptoRow : OpenClaim := { program := "ytfcmjlbfoindaaa", sum := "374538fba4b3abfcf2fc699b0f65ebecf6b23add1cb0328fd23f739093a5d0da", func := "fingerpost/fingerpostlaw31.BudgetSizes", spec := "budgetSizes", apart := false, narrowed := true }
def BudgetSizesUptoSaid : Prop := budgetSizesUptoRow.holds Try.pinned (OpenSpec.upto budgetSizesSpec)

/-- 'fingerpostlaw31.BudgetPays', WHERE WHAT IT READS IS OF BULK AT MOST 1048576: true; the input reads as it did. -/
def budgetPaysUptoRow : OpenClaim := { program := "ytfcmjlbfoindaaa", sum := "374538fba4b3abfcf2fc699b0f65ebecf6b23add1cb0328fd23f739093a5d0da", func := "fingerpost/fingerpostlaw31.BudgetPays", spec := "budgetPays", apart := false, narrowed := true }
def BudgetPaysUptoSaid : Prop := budgetPaysUptoRow.holds Try.pinned (OpenSpec.upto budgetPaysSpec)

end Rows
end Go.Proofs.Ytfcmjlbfoindaaa

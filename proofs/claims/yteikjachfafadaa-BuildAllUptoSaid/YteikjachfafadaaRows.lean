/-
  No cell of these rows narrows 'for every input' (looked for: loops, veiled, ifaces, maps, wideKeys, modest, calm, conditions, laid).
  DERIVED. THE GIVEN ROWS OF THIS SEAT. 3 by the template 'for every input the law returns true; each argument reads behind the call as it read before'; 0 by the template 'total and deterministic' (their statements: YteikjachfafadaaTotals.lean).
  GIVEN WITH THE SEED: the statements are not yours to turn. If you find one false, say at which input.
  Laid BY PROGRAM, IN A SANDBOX (cutbox-rows.mjs): the forced cells as the released guide's own fill.sh prints them over the translation 6a9373414eaa469a… (all of the seat's roots in one cut). By AI agents, Wed Nov 11 2026. No macro, syntax, notation, axiom, sorry.
-/
import Derived.Test.YteikjachfafadaaChecked
import GoSem.Claim
import GoSem.ClaimJoined
import GoSem.ClaimMapViews
import Derived.JoinedTies
import Derived.KernelRfl
namespace Go.Proofs.Yteikjachfafadaa
/- THE CELL 'sum', in the pinned program and in every row, IS THE sha256 OF THE DUMP (.gsa) THAT YteikjachfafadaaProg.lean LOADS. Nothing in Lean hashes anything: it is a label: what it is worth is what the hold of that sum in a sandbox is worth. -/
noncomputable def Try.pinned : Pinned := { name := "yteikjachfafadaa", sum := "6a9373414eaa469a5cdf0aa4f2d71b011ac42ec4cadabc2608358204ef27a5ae", checked := Try.checked }
namespace Rows
def none {H : Type} : Left H := { results := [], args := [] }

/-- 'fingerpostlaw21.BuildBodies': WHATEVER THE INPUT: true; the input reads as it did. -/
def buildBodiesSpec : ChangeSpec := { name := "buildBodies", fn := fun _ => fun
  | [d1, d2, d3, d4] => { results := [.lit (.bool true)], args := [d1, d2, d3, d4] }
  | _ => none }
def buildBodiesRow : OpenClaim := { program := "yteikjachfafadaa", sum := "6a9373414eaa469a5cdf0aa4f2d71b011ac42ec4cadabc2608358204ef27a5ae", func := "fingerpost/fingerpostlaw21.BuildBodies", spec := "buildBodies", apart := false }
def BuildBodiesSaid : Prop := buildBodiesRow.holds Try.pinned (OpenSpec.ofChange buildBodiesSpec)

/-- ITS FALSE NEIGHBOUR: 'it returns false'. Refute it at one input. -/
def buildBodiesWrong : ChangeSpec := { name := "buildBodies", fn := fun _ => fun
  | [d1, d2, d3, d4] => { results := [.lit (.bool false)], args := [d1, d2, d3, d4] }
  | _ => none }
def BuildBodiesWrongFalsely : Prop := buildBodiesRow.holds Try.pinned (OpenSpec.ofChange buildBodiesWrong)

/-- 'fingerpostlaw21.BuildUpdates': WHATEVER THE INPUT: true; the input reads as it did. -/
def buildUpdatesSpec : ChangeSpec := { name := "buildUpdates", fn := fun _ => fun
  | [d1, d2, d3] => { results := [.lit (.bool true)], args := [d1, d2, d3] }
  | _ => none }
def buildUpdatesRow : OpenClaim := { program := "yteikjachfafadaa", sum := "6a9373414eaa469a5cdf0aa4f2d71b011ac42ec4cadabc2608358204ef27a5ae", func := "fingerpost/fingerpostlaw21.BuildUpdates", spec := "buildUpdates", apart := false }
def BuildUpdatesSaid : Prop := buildUpdatesRow.holds Try.pinned (OpenSpec.ofChange buildUpdatesSpec)

/-- ITS FALSE NEIGHBOUR: 'it returns false'. Refute it at one input. -/
def buildUpdatesWrong : ChangeSpec := { name := "buildUpdates", fn := fun _ => fun
  | [d1, d2, d3] => { results := [.lit (.bool false)], args := [d1, d2, d3] }
  | _ => none }
def BuildUpdatesWrongFalsely : Prop := buildUpdatesRow.holds Try.pinned (OpenSpec.ofChange buildUpdatesWrong)

/-- 'fingerpostlaw21.BuildAll': WHATEVER THE INPUT: true; the input reads as it did. -/
def buildAllSpec : ChangeSpec := { name := "buildAll", fn := fun _ => fun
  | [d1, d2, d3] => { results := [.lit (.bool true)], args := [d1, d2, d3] }
  | _ => none }
def buildAllRow : OpenClaim := { program := "yteikjachfafadaa", sum := "6a9373414eaa469a5cdf0aa4f2d71b011ac42ec4cadabc2608358204ef27a5ae", func := "fingerpost/fingerpostlaw21.BuildAll", spec := "buildAll", apart := false }
def BuildAllSaid : Prop := buildAllRow.holds Try.pinned (OpenSpec.ofChange buildAllSpec)

/-- ITS FALSE NEIGHBOUR: 'it returns false'. Refute it at one input. -/
def buildAllWrong : ChangeSpec := { name := "buildAll", fn := fun _ => fun
  | [d1, d2, d3] => { results := [.lit (.bool false)], args := [d1, d2, d3] }
  | _ => none }
def BuildAllWrongFalsely : Prop := buildAllRow.holds Try.pinned (OpenSpec.ofChange buildAllWrong)

/- THE SECOND FORM. 'bulk': how many values and letters a reading holds, each counted each time it is reached (what is shared counts as often as it is met; a slice's spare places count too). A statement '..UptoSaid' is the law's where the arguments, and the package variables that the reading takes, are together of bulk at most 1048576: NARROWER than '..Said'. Prove '..Said' where nothing that the law and all that it calls make is longer than what came in: it says more and counts as full. Else prove '..UptoSaid'. A law counts once. -/
mutual
def uptoBulk {H : Type} : DataW H → Nat
  | .lit (.string bytes) => bytes.length + 1
  | .lit _ => 1
  | .nil => 1
  | .ptr d => uptoBulk d + 1
  | .slice elems spare => uptoBulkAll elems + uptoBulkAll spare + 1
  | .agg parts => uptoBulkAll parts + 1
  | .iface _ d => uptoBulk d + 1
  | .map entries => uptoBulkEntries entries + 1
  | .held _ => 1
def uptoBulkAll {H : Type} : List (DataW H) → Nat
  | [] => 0
  | d :: r => uptoBulk d + uptoBulkAll r
def uptoBulkEntries {H : Type} : List (Lit × DataW H) → Nat
  | [] => 0
  | x :: r => uptoBulkEntry x + uptoBulkEntries r
def uptoBulkEntry {H : Type} : Lit × DataW H → Nat
  | (.string bytes, d) => bytes.length + uptoBulk d + 1
  | (_, d) => uptoBulk d + 1
 end
def uptoSmall : (H : Type) → List (DataW H) → Bool := fun _ ds => decide (uptoBulkAll ds ≤ 1048576)
def OpenSpec.upto (s : _root_.Go.ChangeSpec) : _root_.Go.OpenSpec := { _root_.Go.OpenSpec.ofChange s with cond := some uptoSmall }

/-- 'fingerpostlaw21.BuildBodies', WHERE WHAT IT READS IS OF BULK AT MOST 1048576: true; the input reads as it did. -/
def buildBodiesUptoRow : OpenClaim := { program := "yteikjachfafadaa", sum := "6a9373414eaa469a5cdf0aa4f2d71b011ac42ec4cadabc2608358204ef27a5ae", func := "fingerpost/fingerpostlaw21.BuildBodies", spec := "buildBodies", apart := false, narrowed := true }
def BuildBodiesUptoSaid : Prop := buildBodiesUptoRow.holds Try.pinned (OpenSpec.upto buildBodiesSpec)

/-- 'fingerpostlaw21.BuildUpdates', WHERE WHAT IT READS IS OF BULK AT MOST 1048576: true; the input reads as it did. -/
def buildUpdatesUptoRow : OpenClaim := { program := "yteikjachfafadaa", sum := "6a9373414eaa469a5cdf0aa4f2d71b011ac42ec4cadabc2608358204ef27a5ae", func := "fingerpost/fingerpostlaw21.BuildUpdates", spec := "buildUpdates", apart := false, narrowed := true }
def BuildUpdatesUptoSaid : Prop := buildUpdatesUptoRow.holds Try.pinned (OpenSpec.upto buildUpdatesSpec)

/-- 'fingerpostlaw21.BuildAll', WHERE WHAT IT READS IS OF BULK AT MOST 1048576: true; the input reads as it did. -/
def buildAllUptoRow : OpenClaim := { program := "yteikjachfafadaa", sum := "6a9373414eaa469a5cdf0aa4f2d71b011ac42ec4cadabc2608358204ef27a5ae", func := "fingerpost/fingerpostlaw21.BuildAll", spec := "buildAll", apart := false, narrowed := true }
def BuildAllUptoSaid : Prop := buildAllUptoRow.holds Try.pinned (OpenSpec.upto buildAllSpec)

end Rows
end Go.Proofs.Yteikjachfafadaa

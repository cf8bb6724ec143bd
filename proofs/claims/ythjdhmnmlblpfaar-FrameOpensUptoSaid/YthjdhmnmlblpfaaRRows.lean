/-
  No cell of these rows narrows 'for every input' (looked for: loops, veiled, ifaces, maps, wideKeys, modest, calm, conditions, laid).
  DERIVED. THE GIVEN ROWS OF THIS SEAT. 5 by the template 'for every input the law returns true; each argument reads behind the call as it read before'; 0 by the template 'total and deterministic' (their statements: YthjdhmnmlblpfaaRTotals.lean).
  GIVEN WITH THE SEED: the statements are not yours to turn. If you find one false, say at which input.
  Laid BY PROGRAM, IN A SANDBOX (cutbox-rows.mjs): the forced cells as the released guide's own fill.sh prints them over the translation d0ffd96a0759cc94… (all of the seat's roots in one cut). By AI agents, Wed Nov 11 2026. No macro, syntax, notation, axiom, sorry.
-/
import Derived.Test.YthjdhmnmlblpfaaRChecked
import GoSem.Claim
import GoSem.ClaimJoined
import GoSem.ClaimMapViews
import Derived.JoinedTies
import Derived.KernelRfl
namespace Go.Proofs.YthjdhmnmlblpfaaR
/- THE CELL 'sum', in the pinned program and in every row, IS THE sha256 OF THE DUMP (.gsa) THAT YthjdhmnmlblpfaaRProg.lean LOADS. Nothing in Lean hashes anything: it is a label: what it is worth is what the hold of that sum in a sandbox is worth. -/
noncomputable def Try.pinned : Pinned := { name := "ythjdhmnmlblpfaar", sum := "d0ffd96a0759cc94051819d25e711a9a8efe19c2249d3a4ee6ec34265c813efa", checked := Try.checked }
namespace Rows
def none {H : Type} : Left H := { results := [], args := [] }

/-- 'fingerpostlaw12.FrameSeals': WHATEVER THE INPUT: true; the input reads as it did. -/
def frameSealsSpec : ChangeSpec := { name := "frameSeals", fn := fun _ => fun
  | [d1, d2, d3] => { results := [.lit (.bool true)], args := [d1, d2, d3] }
  | _ => none }
def frameSealsRow : OpenClaim := { program := "ythjdhmnmlblpfaar", sum := "d0ffd96a0759cc94051819d25e711a9a8efe19c2249d3a4ee6ec34265c813efa", func := "fingerpost/fingerpostlaw12.FrameSeals", spec := "frameSeals", apart := false }
def FrameSealsSaid : Prop := frameSealsRow.holds Try.pinned (OpenSpec.ofChange frameSealsSpec)

/-- ITS FALSE NEIGHBOUR: 'it returns false'. Refute it at one input. -/
def frameSealsWrong : ChangeSpec := { name := "frameSeals", fn := fun _ => fun
  | [d1, d2, d3] => { results := [.lit (.bool false)], args := [d1, d2, d3] }
  | _ => none }
def FrameSealsWrongFalsely : Prop := frameSealsRow.holds Try.pinned (OpenSpec.ofChange frameSealsWrong)

/-- 'fingerpostlaw12.FrameHellos': WHATEVER THE INPUT: true; the input reads as it did. -/
def frameHellosSpec : ChangeSpec := { name := "frameHellos", fn := fun _ => fun
  | [d1, d2] => { results := [.lit (.bool true)], args := [d1, d2] }
  | _ => none }
def frameHellosRow : OpenClaim := { program := "ythjdhmnmlblpfaar", sum := "d0ffd96a0759cc94051819d25e711a9a8efe19c2249d3a4ee6ec34265c813efa", func := "fingerpost/fingerpostlaw12.FrameHellos", spec := "frameHellos", apart := false }
def FrameHellosSaid : Prop := frameHellosRow.holds Try.pinned (OpenSpec.ofChange frameHellosSpec)

/-- ITS FALSE NEIGHBOUR: 'it returns false'. Refute it at one input. -/
def frameHellosWrong : ChangeSpec := { name := "frameHellos", fn := fun _ => fun
  | [d1, d2] => { results := [.lit (.bool false)], args := [d1, d2] }
  | _ => none }
def FrameHellosWrongFalsely : Prop := frameHellosRow.holds Try.pinned (OpenSpec.ofChange frameHellosWrong)

/-- 'fingerpostlaw12.FrameBack': WHATEVER THE INPUT: true; the input reads as it did. -/
def frameBackSpec : ChangeSpec := { name := "frameBack", fn := fun _ => fun
  | [d1, d2, d3] => { results := [.lit (.bool true)], args := [d1, d2, d3] }
  | _ => none }
def frameBackRow : OpenClaim := { program := "ythjdhmnmlblpfaar", sum := "d0ffd96a0759cc94051819d25e711a9a8efe19c2249d3a4ee6ec34265c813efa", func := "fingerpost/fingerpostlaw12.FrameBack", spec := "frameBack", apart := false }
def FrameBackSaid : Prop := frameBackRow.holds Try.pinned (OpenSpec.ofChange frameBackSpec)

/-- ITS FALSE NEIGHBOUR: 'it returns false'. Refute it at one input. -/
def frameBackWrong : ChangeSpec := { name := "frameBack", fn := fun _ => fun
  | [d1, d2, d3] => { results := [.lit (.bool false)], args := [d1, d2, d3] }
  | _ => none }
def FrameBackWrongFalsely : Prop := frameBackRow.holds Try.pinned (OpenSpec.ofChange frameBackWrong)

/-- 'fingerpostlaw12.FrameOpens': WHATEVER THE INPUT: true; the input reads as it did. -/
def frameOpensSpec : ChangeSpec := { name := "frameOpens", fn := fun _ => fun
  | [d1, d2] => { results := [.lit (.bool true)], args := [d1, d2] }
  | _ => none }
def frameOpensRow : OpenClaim := { program := "ythjdhmnmlblpfaar", sum := "d0ffd96a0759cc94051819d25e711a9a8efe19c2249d3a4ee6ec34265c813efa", func := "fingerpost/fingerpostlaw12.FrameOpens", spec := "frameOpens", apart := false }
def FrameOpensSaid : Prop := frameOpensRow.holds Try.pinned (OpenSpec.ofChange frameOpensSpec)

/-- ITS FALSE NEIGHBOUR: 'it returns false'. Refute it at one input. -/
def frameOpensWrong : ChangeSpec := { name := "frameOpens", fn := fun _ => fun
  | [d1, d2] => { results := [.lit (.bool false)], args := [d1, d2] }
  | _ => none }
def FrameOpensWrongFalsely : Prop := frameOpensRow.holds Try.pinned (OpenSpec.ofChange frameOpensWrong)

/-- 'fingerpostlaw12.FrameUpdates': WHATEVER THE INPUT: true; the input reads as it did. -/
def frameUpdatesSpec : ChangeSpec := { name := "frameUpdates", fn := fun _ => fun
  | [d1, d2] => { results := [.lit (.bool true)], args := [d1, d2] }
  | _ => none }
def frameUpdatesRow : OpenClaim := { program := "ythjdhmnmlblpfaar", sum := "d0ffd96a0759cc94051819d25e711a9a8efe19c2249d3a4ee6ec34265c813efa", func := "fingerpost/fingerpostlaw12.FrameUpdates", spec := "frameUpdates", apart := false }
def FrameUpdatesSaid : Prop := frameUpdatesRow.holds Try.pinned (OpenSpec.ofChange frameUpdatesSpec)

/-- ITS FALSE NEIGHBOUR: 'it returns false'. Refute it at one input. -/
def frameUpdatesWrong : ChangeSpec := { name := "frameUpdates", fn := fun _ => fun
  | [d1, d2] => { results := [.lit (.bool false)], args := [d1, d2] }
  | _ => none }
def FrameUpdatesWrongFalsely : Prop := frameUpdatesRow.holds Try.pinned (OpenSpec.ofChange frameUpdatesWrong)

/- THE SECOND FORM. 'bulk': how many values and letters a reading holds, each counted each time it is reached (what is shared counts as often as it is met; a slice's spare places count too). A statement '..UptoSaid' is the law's where the arguments, and the package variables that the reading takes, are together of bulk at most 1048576: NARROWER than '..Said'. Prove '..Said' where nothing that the law and all that it calls make is longer than what came in: it says more and counts as full. Else prove '..UptoSaid'. A law counts once. -/
mutual
def uptoBulk {H : Type} : DataW H → Nat
  | .lit (.string bytes) => bytes.length + 1
  | .lit _ => 1
  | .nil => 1
  | .ptr d => uptoBulk d + 1
  | .slice elems spare => uptoBulkAll elems + uptoBulkAll spare + 1
  | .agg parts => uptoBulkAll parts + 1
  | .iface _ d => uptoBulk d + 1
  | .map entries => uptoBulkEntries entries + 1
  | .held _ => 1
def uptoBulkAll {H : Type} : List (DataW H) → Nat
  | [] => 0
  | d :: r => uptoBulk d + uptoBulkAll r
def uptoBulkEntries {H : Type} : List (Lit × DataW H) → Nat
  | [] => 0
  | x :: r => uptoBulkEntry x + uptoBulkEntries r
def uptoBulkEntry {H : Type} : Lit × DataW H → Nat
  | (.string bytes, d) => bytes.length + uptoBulk d + 1
  | (_, d) => uptoBulk d + 1
 end
def uptoSmall : (H : Type) → List (DataW H) → Bool := fun _ ds => decide (uptoBulkAll ds ≤ 1048576)
def OpenSpec.upto (s : _root_.Go.ChangeSpec) : _root_.Go.OpenSpec := { _root_.Go.OpenSpec.ofChange s with cond := some uptoSmall }

/-- 'fingerpostlaw12.FrameSeals', WHERE WHAT IT READS IS OF BULK AT MOST 1048576: true; the input reads as it did. -/
def frameSealsUptoRow : OpenClaim := { program := "ythjdhmnmlblpfaar", sum := "d0ffd96a0759cc94051819d25e711a9a8efe19c2249d3a4ee6ec34265c813efa", func := "fingerpost/fingerpostlaw12.FrameSeals", spec := "frameSeals", apart := false, narrowed := true }
def FrameSealsUptoSaid : Prop := frameSealsUptoRow.holds Try.pinned (OpenSpec.upto frameSealsSpec)

/-- 'fingerpostlaw12.FrameHellos', WHERE WHAT IT READS IS OF BULK AT MOST 1048576: true; the input reads as it did. -/
def frameHellosUptoRow : OpenClaim := { program := "ythjdhmnmlblpfaar", sum := "d0ffd96a0759cc94051819d25e711a9a8efe19c2249d3a4ee6ec34265c813efa", func := "fingerpost/fingerpostlaw12.FrameHellos", spec := "frameHellos", apart := false, narrowed := true }
def FrameHellosUptoSaid : Prop := frameHellosUptoRow.holds Try.pinned (OpenSpec.upto frameHellosSpec)

/-- 'fingerpostlaw12.FrameBack', WHERE WHAT IT READS IS OF BULK AT MOST 1048576: true; the input reads as it did. -/
def frameBackUptoRow : OpenClaim := { program := "ythjdhmnmlblpfaar", sum := "d0ffd96a0759cc94051819d25e711a9a8efe19c2249d3a4ee6ec34265c813efa", func := "fingerpost/fingerpostlaw12.FrameBack", spec := "frameBack", apart := false, narrowed := true }
def FrameBackUptoSaid : Prop := frameBackUptoRow.holds Try.pinned (OpenSpec.upto frameBackSpec)

/-- 'fingerpostlaw12.FrameOpens', WHERE WHAT IT READS IS OF BULK AT MOST 1048576: true; the input reads as it did. -/
def frameOpensUptoRow : OpenClaim := { program := "ythjdhmnmlblpfaar", sum := "d0ffd96a0759cc94051819d25e711a9a8efe19c2249d3a4ee6ec34265c813efa", func := "fingerpost/fingerpostlaw12.FrameOpens", spec := "frameOpens", apart := false, narrowed := true }
def FrameOpensUptoSaid : Prop := frameOpensUptoRow.holds Try.pinned (OpenSpec.upto frameOpensSpec)

/-- 'fingerpostlaw12.FrameUpdates', WHERE WHAT IT READS IS OF BULK AT MOST 1048576: true; the input reads as it did. -/
def frameUpdatesUptoRow : OpenClaim := { program := "ythjdhmnmlblpfaar", sum := "d0ffd96a0759cc94051819d25e711a9a8efe19c2249d3a4ee6ec34265c813efa", func := "fingerpost/fingerpostlaw12.FrameUpdates", spec := "frameUpdates", apart := false, narrowed := true }
def FrameUpdatesUptoSaid : Prop := frameUpdatesUptoRow.holds Try.pinned (OpenSpec.upto frameUpdatesSpec)

end Rows
end Go.Proofs.YthjdhmnmlblpfaaR

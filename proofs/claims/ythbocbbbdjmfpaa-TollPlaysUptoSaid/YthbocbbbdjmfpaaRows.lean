/-
  No cell of these rows narrows 'for every input' (looked for: loops, veiled, ifaces, maps, wideKeys, modest, calm, conditions, laid).
  DERIVED. THE GIVEN ROWS OF THIS SEAT. 4 by the template 'for every input the law returns true; each argument reads behind the call as it read before'; 0 by the template 'total and deterministic' (their statements: YthbocbbbdjmfpaaTotals.lean).
  GIVEN WITH THE SEED: the statements are not yours to turn. If you find one false, say at which input.
  Laid BY PROGRAM, IN A SANDBOX (cutbox-rows.mjs): the forced cells as the released guide's own fill.sh prints them over the translation a58497a14929d87c… (all of the seat's roots in one cut). By AI agents, Wed Nov 11 2026. No macro, syntax, notation, axiom, sorry.
-/
import Derived.Test.YthbocbbbdjmfpaaChecked
import GoSem.Claim
import GoSem.ClaimJoined
import GoSem.ClaimMapViews
import Derived.JoinedTies
import Derived.KernelRfl
namespace Go.Proofs.Ythbocbbbdjmfpaa
/- THE CELL 'sum', in the pinned program and in every row, IS THE sha256 OF THE DUMP (.gsa) THAT YthbocbbbdjmfpaaProg.lean LOADS. Nothing in Lean hashes anything: it is a label: what it is worth is what the hold of that sum in a sandbox is worth. -/
noncomputable def Try.pinned : Pinned := { name := "ythbocbbbdjmfpaa", sum := "a58497a14929d87c76319d7cdc0d1951da7260b73b13b692fad8f3faebe86535", checked := Try.checked }
namespace Rows
def none {H : Type} : Left H := { results := [], args := [] }

/-- 'fingerpostlaw17.TollPlays': WHATEVER THE INPUT: true; the input reads as it did. -/
def tollPlaysSpec : ChangeSpec := { name := "tollPlays", fn := fun _ => fun
  | [d1, d2] => { results := [.lit (.bool true)], args := [d1, d2] }
  | _ => none }
def tollPlaysRow : OpenClaim := { program := "ythbocbbbdjmfpaa", sum := "a58497a14929d87c76319d7cdc0d1951da7260b73b13b692fad8f3faebe86535", func := "fingerpost/fingerpostlaw17.TollPlays", spec := "tollPlays", apart := false }
def TollPlaysSaid : Prop := tollPlaysRow.holds Try.pinned (OpenSpec.ofChange tollPlaysSpec)

/-- ITS FALSE NEIGHBOUR: 'it returns false'. Refute it at one input. -/
def tollPlaysWrong : ChangeSpec := { name := "tollPlays", fn := fun _ => fun
  | [d1, d2] => { results := [.lit (.bool false)], args := [d1, d2] }
  | _ => none }
def TollPlaysWrongFalsely : Prop := tollPlaysRow.holds Try.pinned (OpenSpec.ofChange tollPlaysWrong)

/-- 'fingerpostlaw17.TollNil': WHATEVER THE INPUT: true; the input reads as it did. -/
def tollNilSpec : ChangeSpec := { name := "tollNil", fn := fun _ => fun
  | [d] => { results := [.lit (.bool true)], args := [d] }
  | _ => none }
def tollNilRow : OpenClaim := { program := "ythbocbbbdjmfpaa", sum := "a58497a14929d87c76319d7cdc0d1951da7260b73b13b692fad8f3faebe86535", func := "fingerpost/fingerpostlaw17.TollNil", spec := "tollNil", apart := false }
def TollNilSaid : Prop := tollNilRow.holds Try.pinned (OpenSpec.ofChange tollNilSpec)

/-- ITS FALSE NEIGHBOUR: 'it returns false'. Refute it at one input. -/
def tollNilWrong : ChangeSpec := { name := "tollNil", fn := fun _ => fun
  | [d] => { results := [.lit (.bool false)], args := [d] }
  | _ => none }
def TollNilWrongFalsely : Prop := tollNilRow.holds Try.pinned (OpenSpec.ofChange tollNilWrong)

/-- 'fingerpostlaw17.TollBounds': WHATEVER THE INPUT: true; the input reads as it did. -/
def tollBoundsSpec : ChangeSpec := { name := "tollBounds", fn := fun _ => fun
  | [d1, d2] => { results := [.lit (.bool true)], args := [d1, d2] }
  | _ => none }
def tollBoundsRow : OpenClaim := { program := "ythbocbbbdjmfpaa", sum := "a58497a14929d87c76319d7cdc0d1951da7260b73b13b692fad8f3faebe86535", func := "fingerpost/fingerpostlaw17.TollBounds", spec := "tollBounds", apart := false }
def TollBoundsSaid : Prop := tollBoundsRow.holds Try.pinned (OpenSpec.ofChange tollBoundsSpec)

/-- ITS FALSE NEIGHBOUR: 'it returns false'. Refute it at one input. -/
def tollBoundsWrong : ChangeSpec := { name := "tollBounds", fn := fun _ => fun
  | [d1, d2] => { results := [.lit (.bool false)], args := [d1, d2] }
  | _ => none }
def TollBoundsWrongFalsely : Prop := tollBoundsRow.holds Try.pinned (OpenSpec.ofChange tollBoundsWrong)

/-- 'fingerpostlaw17.TollMost': WHATEVER THE INPUT: true; the input reads as it did. -/
def tollMostSpec : ChangeSpec := { name := "tollMost", fn := fun _ => fun
  | [d1, d2] => { results := [.lit (.bool true)], args := [d1, d2] }
  | _ => none }
def tollMostRow : OpenClaim := { program := "ythbocbbbdjmfpaa", sum := "a58497a14929d87c76319d7cdc0d1951da7260b73b13b692fad8f3faebe86535", func := "fingerpost/fingerpostlaw17.TollMost", spec := "tollMost", apart := false }
def TollMostSaid : Prop := tollMostRow.holds Try.pinned (OpenSpec.ofChange tollMostSpec)

/-- ITS FALSE NEIGHBOUR: 'it returns false'. Refute it at one input. -/
def tollMostWrong : ChangeSpec := { name := "tollMost", fn := fun _ => fun
  | [d1, d2] => { results := [.lit (.bool false)], args := [d1, d2] }
  | _ => none }
def TollMostWrongFalsely : Prop := tollMostRow.holds Try.pinned (OpenSpec.ofChange tollMostWrong)

/- THE SECOND FORM. 'bulk': how many values and letters a reading holds, each counted each time it is reached (what is shared counts as often as it is met; a slice's spare places count too). A statement '..UptoSaid' is the law's where the arguments, and the package variables that the reading takes, are together of bulk at most 1048576: NARROWER than '..Said'. Prove '..Said' where nothing that the law and all that it calls make is longer than what came in: it says more and counts as full. Else prove '..UptoSaid'. A law counts once. -/
mutual
def uptoBulk {H : Type} : DataW H → Nat
  | .lit (.string bytes) => bytes.length + 1
  | .lit _ => 1
  | .nil => 1
  | .ptr d => uptoBulk d + 1
  | .slice elems spare => uptoBulkAll elems + uptoBulkAll spare + 1
  | .agg parts => uptoBulkAll parts + 1
  | .iface _ d => uptoBulk d + 1
  | .map entries => uptoBulkEntries entries + 1
  | .held _ => 1
def uptoBulkAll {H : Type} : List (DataW H) → Nat
  | [] => 0
  | d :: r => uptoBulk d + uptoBulkAll r
def uptoBulkEntries {H : Type} : List (Lit × DataW H) → Nat
  | [] => 0
  | x :: r => uptoBulkEntry x + uptoBulkEntries r
def uptoBulkEntry {H : Type} : Lit × DataW H → Nat
  | (.string bytes, d) => bytes.length + uptoBulk d + 1
  | (_, d) => uptoBulk d + 1
 end
def uptoSmall : (H : Type) → List (DataW H) → Bool := fun _ ds => decide (uptoBulkAll ds ≤ 1048576)
def OpenSpec.upto (s : _root_.Go.ChangeSpec) : _root_.Go.OpenSpec := { _root_.Go.OpenSpec.ofChange s with cond := some uptoSmall }

/-- 'fingerpostlaw17.TollPlays', WHERE WHAT IT READS IS OF BULK AT MOST 1048576: true; the input reads as it did. -/
def tollPlaysUptoRow : OpenClaim := { program := "ythbocbbbdjmfpaa", sum := "a58497a14929d87c76319d7cdc0d1951da7260b73b13b692fad8f3faebe86535", func := "fingerpost/fingerpostlaw17.TollPlays", spec := "tollPlays", apart := false, narrowed := true }
def TollPlaysUptoSaid : Prop := tollPlaysUptoRow.holds Try.pinned (OpenSpec.upto tollPlaysSpec)

/-- 'fingerpostlaw17.TollNil', WHERE WHAT IT READS IS OF BULK AT MOST 1048576: true; the input reads as it did. -/
def tollNilUptoRow : OpenClaim := { program := "ythbocbbbdjmfpaa", sum := "a58497a14929d87c76319d7cdc0d1951da7260b73b13b692fad8f3faebe86535", func := "fingerpost/fingerpostlaw17.TollNil", spec := "tollNil", apart := false, narrowed := true }
def TollNilUptoSaid : Prop := tollNilUptoRow.holds Try.pinned (OpenSpec.upto tollNilSpec)

/-- 'fingerpostlaw17.TollBounds', WHERE WHAT IT READS IS OF BULK AT MOST 1048576: true; the input reads as it did. -/
def tollBoundsUptoRow : OpenClaim := { program := "ythbocbbbdjmfpaa", sum := "a58497a14929d87c76319d7cdc0d1951da7260b73b13b692fad8f3faebe86535", func := "fingerpost/fingerpostlaw17.TollBounds", spec := "tollBounds", apart := false, narrowed := true }
def TollBoundsUptoSaid : Prop := tollBoundsUptoRow.holds Try.pinned (OpenSpec.upto tollBoundsSpec)

/-- 'fingerpostlaw17.TollMost', WHERE WHAT IT READS IS OF BULK AT MOST 1048576: true; the input reads as it did. -/
def tollMostUptoRow : OpenClaim := { program := "ythbocbbbdjmfpaa", sum := "a58497a14929d87c76319d7cdc0d1951da7260b73b13b692fad8f3faebe86535", func := "fingerpost/fingerpostlaw17.TollMost", spec := "tollMost", apart := false, narrowed := true }
def TollMostUptoSaid : Prop := tollMostUptoRow.holds Try.pinned (OpenSpec.upto tollMostSpec)

end Rows
end Go.Proofs.Ythbocbbbdjmfpaa

/-
  No cell of these rows narrows 'for every input' (looked for: loops, veiled, ifaces, maps, wideKeys, modest, calm, conditions, laid).
  DERIVED. THE GIVEN ROWS OF THIS SEAT. 5 by the template 'for every input the law returns true; each argument reads behind the call as it read before'; 0 by the template 'total and deterministic' (their statements: YtlmabhaenogbcaaTotals.lean).
  GIVEN WITH THE SEED: the statements are not yours to turn. If you find one false, say at which input.
  Laid BY PROGRAM, IN A SANDBOX (cutbox-rows.mjs): the forced cells as the released guide's own fill.sh prints them over the translation 1d39e940e9ae2d13… (all of the seat's roots in one cut). By AI agents, Wed Nov 11 2026. No macro, syntax, notation, axiom, sorry.
-/
import Derived.Test.YtlmabhaenogbcaaChecked
import GoSem.Claim
import GoSem.ClaimJoined
import GoSem.ClaimMapViews
import Derived.JoinedTies
import Derived.KernelRfl
namespace Go.Proofs.Ytlmabhaenogbcaa
/- THE CELL 'sum', in the pinned program and in every row, IS THE sha256 OF THE DUMP (.gsa) THAT YtlmabhaenogbcaaProg.lean LOADS. Nothing in Lean hashes anything: it is a label: what it is worth is what the hold of that sum in a sandbox is worth. -/
noncomputable def Try.pinned : Pinned := { name := "ytlmabhaenogbcaa", sum := "1d39e940e9ae2d130da9449bd69235fd9c9a55b31a74c6fd42e72a0e2dc0558e", checked := Try.checked }
namespace Rows
def none {H : Type} : Left H := { results := [], args := [] }

/-- 'fingerpostlaw13.PieceSplits': WHATEVER THE INPUT: true; the input reads as it did. -/
def pieceSplitsSpec : ChangeSpec := { name := "pieceSplits", fn := fun _ => fun
  | [d1, d2, d3] => { results := [.lit (.bool true)], args := [d1, d2, d3] }
  | _ => none }
def pieceSplitsRow : OpenClaim := { program := "ytlmabhaenogbcaa", sum := "1d39e940e9ae2d130da9449bd69235fd9c9a55b31a74c6fd42e72a0e2dc0558e", func := "fingerpost/fingerpostlaw13.PieceSplits", spec := "pieceSplits", apart := false }
def PieceSplitsSaid : Prop := pieceSplitsRow.holds Try.pinned (OpenSpec.ofChange pieceSplitsSpec)

/-- ITS FALSE NEIGHBOUR: 'it returns false'. Refute it at one input. -/
def pieceSplitsWrong : ChangeSpec := { name := "pieceSplits", fn := fun _ => fun
  | [d1, d2, d3] => { results := [.lit (.bool false)], args := [d1, d2, d3] }
  | _ => none }
def PieceSplitsWrongFalsely : Prop := pieceSplitsRow.holds Try.pinned (OpenSpec.ofChange pieceSplitsWrong)

/-- 'fingerpostlaw13.PiecePlays': WHATEVER THE INPUT: true; the input reads as it did. -/
def piecePlaysSpec : ChangeSpec := { name := "piecePlays", fn := fun _ => fun
  | [d] => { results := [.lit (.bool true)], args := [d] }
  | _ => none }
def piecePlaysRow : OpenClaim := { program := "ytlmabhaenogbcaa", sum := "1d39e940e9ae2d130da9449bd69235fd9c9a55b31a74c6fd42e72a0e2dc0558e", func := "fingerpost/fingerpostlaw13.PiecePlays", spec := "piecePlays", apart := false }
def PiecePlaysSaid : Prop := piecePlaysRow.holds Try.pinned (OpenSpec.ofChange piecePlaysSpec)

/-- ITS FALSE NEIGHBOUR: 'it returns false'. Refute it at one input. -/
def piecePlaysWrong : ChangeSpec := { name := "piecePlays", fn := fun _ => fun
  | [d] => { results := [.lit (.bool false)], args := [d] }
  | _ => none }
def PiecePlaysWrongFalsely : Prop := piecePlaysRow.holds Try.pinned (OpenSpec.ofChange piecePlaysWrong)

/-- 'fingerpostlaw13.PieceJoins': WHATEVER THE INPUT: true; the input reads as it did. -/
def pieceJoinsSpec : ChangeSpec := { name := "pieceJoins", fn := fun _ => fun
  | [d1, d2, d3, d4, d5, d6] => { results := [.lit (.bool true)], args := [d1, d2, d3, d4, d5, d6] }
  | _ => none }
def pieceJoinsRow : OpenClaim := { program := "ytlmabhaenogbcaa", sum := "1d39e940e9ae2d130da9449bd69235fd9c9a55b31a74c6fd42e72a0e2dc0558e", func := "fingerpost/fingerpostlaw13.PieceJoins", spec := "pieceJoins", apart := false }
def PieceJoinsSaid : Prop := pieceJoinsRow.holds Try.pinned (OpenSpec.ofChange pieceJoinsSpec)

/-- ITS FALSE NEIGHBOUR: 'it returns false'. Refute it at one input. -/
def pieceJoinsWrong : ChangeSpec := { name := "pieceJoins", fn := fun _ => fun
  | [d1, d2, d3, d4, d5, d6] => { results := [.lit (.bool false)], args := [d1, d2, d3, d4, d5, d6] }
  | _ => none }
def PieceJoinsWrongFalsely : Prop := pieceJoinsRow.holds Try.pinned (OpenSpec.ofChange pieceJoinsWrong)

/-- 'fingerpostlaw13.PieceNil': WHATEVER THE INPUT: true; the input reads as it did. -/
def pieceNilSpec : ChangeSpec := { name := "pieceNil", fn := fun _ => fun
  | [d] => { results := [.lit (.bool true)], args := [d] }
  | _ => none }
def pieceNilRow : OpenClaim := { program := "ytlmabhaenogbcaa", sum := "1d39e940e9ae2d130da9449bd69235fd9c9a55b31a74c6fd42e72a0e2dc0558e", func := "fingerpost/fingerpostlaw13.PieceNil", spec := "pieceNil", apart := false }
def PieceNilSaid : Prop := pieceNilRow.holds Try.pinned (OpenSpec.ofChange pieceNilSpec)

/-- ITS FALSE NEIGHBOUR: 'it returns false'. Refute it at one input. -/
def pieceNilWrong : ChangeSpec := { name := "pieceNil", fn := fun _ => fun
  | [d] => { results := [.lit (.bool false)], args := [d] }
  | _ => none }
def PieceNilWrongFalsely : Prop := pieceNilRow.holds Try.pinned (OpenSpec.ofChange pieceNilWrong)

/-- 'fingerpostlaw13.PieceBytes': WHATEVER THE INPUT: true; the input reads as it did. -/
def pieceBytesSpec : ChangeSpec := { name := "pieceBytes", fn := fun _ => fun
  | [d1, d2] => { results := [.lit (.bool true)], args := [d1, d2] }
  | _ => none }
def pieceBytesRow : OpenClaim := { program := "ytlmabhaenogbcaa", sum := "1d39e940e9ae2d130da9449bd69235fd9c9a55b31a74c6fd42e72a0e2dc0558e", func := "fingerpost/fingerpostlaw13.PieceBytes", spec := "pieceBytes", apart := false }
def PieceBytesSaid : Prop := pieceBytesRow.holds Try.pinned (OpenSpec.ofChange pieceBytesSpec)

/-- ITS FALSE NEIGHBOUR: 'it returns false'. Refute it at one input. -/
def pieceBytesWrong : ChangeSpec := { name := "pieceBytes", fn := fun _ => fun
  | [d1, d2] => { results := [.lit (.bool false)], args := [d1, d2] }
  | _ => none }
def PieceBytesWrongFalsely : Prop := pieceBytesRow.holds Try.pinned (OpenSpec.ofChange pieceBytesWrong)

/- THE SECOND FORM. 'bulk': how many values and letters a reading holds, each counted each time it is reached (what is shared counts as often as it is met; a slice's spare places count too). A statement '..UptoSaid' is the law's where the arguments, and the package variables that the reading takes, are together of bulk at most 1048576: NARROWER than '..Said'. Prove '..Said' where nothing that the law and all that it calls make is longer than what came in: it says more and counts as full. Else prove '..UptoSaid'. A law counts once. -/
mutual
def uptoBulk {H : Type} : DataW H → Nat
  | .lit (.string bytes) => bytes.length + 1
  | .lit _ => 1
  | .nil => 1
  | .ptr d => uptoBulk d + 1
  | .slice elems spare => uptoBulkAll elems + uptoBulkAll spare + 1
  | .agg parts => uptoBulkAll parts + 1
  | .iface _ d => uptoBulk d + 1
  | .map entries => uptoBulkEntries entries + 1
  | .held _ => 1
def uptoBulkAll {H : Type} : List (DataW H) → Nat
  | [] => 0
  | d :: r => uptoBulk d + uptoBulkAll r
def uptoBulkEntries {H : Type} : List (Lit × DataW H) → Nat
  | [] => 0
  | x :: r => uptoBulkEntry x + uptoBulkEntries r
def uptoBulkEntry {H : Type} : Lit × DataW H → Nat
  | (.string bytes, d) => bytes.length + uptoBulk d + 1
  | (_, d) => uptoBulk d + 1
 end
def uptoSmall : (H : Type) → List (DataW H) → Bool := fun _ ds => decide (uptoBulkAll ds ≤ 1048576)
def OpenSpec.upto (s : _root_.Go.ChangeSpec) : _root_.Go.OpenSpec := { _root_.Go.OpenSpec.ofChange s with cond := some uptoSmall }

/-- 'fingerpostlaw13.PieceSplits', WHERE WHAT IT READS IS OF BULK AT MOST 1048576: true; the input reads as it did. -/
def pieceSplitsUptoRow : OpenClaim := { program := "ytlmabhaenogbcaa", sum := "1d39e940e9ae2d130da9449bd69235fd9c9a55b31a74c6fd42e72a0e2dc0558e", func := "fingerpost/fingerpostlaw13.PieceSplits", spec := "pieceSplits", apart := false, narrowed := true }
def PieceSplitsUptoSaid : Prop := pieceSplitsUptoRow.holds Try.pinned (OpenSpec.upto pieceSplitsSpec)

/-- 'fingerpostlaw13.PiecePlays', WHERE WHAT IT READS IS OF BULK AT MOST 1048576: true; the input reads as it did. -/
def piecePlaysUptoRow : OpenClaim := { program := "ytlmabhaenogbcaa", sum := "1d39e940e9ae2d130da9449bd69235fd9c9a55b31a74c6fd42e72a0e2dc0558e", func := "fingerpost/fingerpostlaw13.PiecePlays", spec := "piecePlays", apart := false, narrowed := true }
def PiecePlaysUptoSaid : Prop := piecePlaysUptoRow.holds Try.pinned (OpenSpec.upto piecePlaysSpec)

/-- 'fingerpostlaw13.PieceJoins', WHERE WHAT IT READS IS OF BULK AT MOST 1048576: true; the input reads as it did. -/
def pieceJoinsUptoRow : OpenClaim := { program := "ytlmabhaenogbcaa", sum := "1d39e940e9ae2d130da9449bd69235fd9c9a55b31a74c6fd42e72a0e2dc0558e", func := "fingerpost/fingerpostlaw13.PieceJoins", spec := "pieceJoins", apart := false, narrowed := true }
def PieceJoinsUptoSaid : Prop := pieceJoinsUptoRow.holds Try.pinned (OpenSpec.upto pieceJoinsSpec)

/-- 'fingerpostlaw13.PieceNil', WHERE WHAT IT READS IS OF BULK AT MOST 1048576: true; the input reads as it did. -/
def pieceNilUptoRow : OpenClaim := { program := "ytlmabhaenogbcaa", sum := "1d39e940e9ae2d130da9449bd69235fd9c9a55b31a74c6fd42e72a0e2dc0558e", func := "fingerpost/fingerpostlaw13.PieceNil", spec := "pieceNil", apart := false, narrowed := true }
def PieceNilUptoSaid : Prop := pieceNilUptoRow.holds Try.pinned (OpenSpec.upto pieceNilSpec)

/-- 'fingerpostlaw13.PieceBytes', WHERE WHAT IT READS IS OF BULK AT MOST 1048576: true; the input reads as it did. -/
def pieceBytesUptoRow : OpenClaim := { program := "ytlmabhaenogbcaa", sum := "1d39e940e9ae2d130da9449bd69235fd9c9a55b31a74c6fd42e72a0e2dc0558e", func := "fingerpost/fingerpostlaw13.PieceBytes", spec := "pieceBytes", apart := false, narrowed := true }
def PieceBytesUptoSaid : Prop := pieceBytesUptoRow.holds Try.pinned (OpenSpec.upto pieceBytesSpec)

end Rows
end Go.Proofs.Ytlmabhaenogbcaa

/-
  No cell of these rows narrows 'for every input' (looked for: loops, veiled, ifaces, maps, wideKeys, modest, calm, conditions, laid).
  DERIVED. THE GIVEN ROWS OF THIS SEAT. 4 by the template 'for every input the law returns true; each argument reads behind the call as it read before'; 0 by the template 'total and deterministic' (their statements: YtonbjealgdmngaaTotals.lean).
  GIVEN WITH THE SEED: the statements are not yours to turn. If you find one false, say at which input.
  Laid BY PROGRAM, IN A SANDBOX (cutbox-rows.mjs): the forced cells as the released guide's own fill.sh prints them over the translation 40046692d07094f4… (all of the seat's roots in one cut). By AI agents, Wed Nov 11 2026. No macro, syntax, notation, axiom, sorry.
-/
import Derived.Test.YtonbjealgdmngaaChecked
import GoSem.Claim
import GoSem.ClaimJoined
import GoSem.ClaimMapViews
import Derived.JoinedTies
import Derived.KernelRfl
namespace Go.Proofs.Ytonbjealgdmngaa
/- THE CELL 'sum', in the pinned program and in every row, IS THE sha256 OF THE DUMP (.gsa) THAT YtonbjealgdmngaaProg.lean LOADS. Nothing in Lean hashes anything: it is a label: what it is worth is what the hold of that sum in a sandbox is worth. -/
noncomputable def Try.pinned : Pinned := { name := "ytonbjealgdmngaa", sum := "40046692d07094f410be0e8686672a9c7d5ccb8708e47bb4c2cd914d0f5b159a", checked := Try.checked }
namespace Rows
def none {H : Type} : Left H := { results := [], args := [] }

/-- 'fingerpostlaw20.SettleSoon': WHATEVER THE INPUT: true; the input reads as it did. -/
def settleSoonSpec : ChangeSpec := { name := "settleSoon", fn := fun _ => fun
  | [d1, d2] => { results := [.lit (.bool true)], args := [d1, d2] }
  | _ => none }
def settleSoonRow : OpenClaim := { program := "ytonbjealgdmngaa", sum := "40046692d07094f410be0e8686672a9c7d5ccb8708e47bb4c2cd914d0f5b159a", func := "fingerpost/fingerpostlaw20.SettleSoon", spec := "settleSoon", apart := false }
def SettleSoonSaid : Prop := settleSoonRow.holds Try.pinned (OpenSpec.ofChange settleSoonSpec)

/-- ITS FALSE NEIGHBOUR: 'it returns false'. Refute it at one input. -/
def settleSoonWrong : ChangeSpec := { name := "settleSoon", fn := fun _ => fun
  | [d1, d2] => { results := [.lit (.bool false)], args := [d1, d2] }
  | _ => none }
def SettleSoonWrongFalsely : Prop := settleSoonRow.holds Try.pinned (OpenSpec.ofChange settleSoonWrong)

/-- 'fingerpostlaw20.SettleUrgent': WHATEVER THE INPUT: true; the input reads as it did. -/
def settleUrgentSpec : ChangeSpec := { name := "settleUrgent", fn := fun _ => fun
  | [d1, d2, d3, d4] => { results := [.lit (.bool true)], args := [d1, d2, d3, d4] }
  | _ => none }
def settleUrgentRow : OpenClaim := { program := "ytonbjealgdmngaa", sum := "40046692d07094f410be0e8686672a9c7d5ccb8708e47bb4c2cd914d0f5b159a", func := "fingerpost/fingerpostlaw20.SettleUrgent", spec := "settleUrgent", apart := false }
def SettleUrgentSaid : Prop := settleUrgentRow.holds Try.pinned (OpenSpec.ofChange settleUrgentSpec)

/-- ITS FALSE NEIGHBOUR: 'it returns false'. Refute it at one input. -/
def settleUrgentWrong : ChangeSpec := { name := "settleUrgent", fn := fun _ => fun
  | [d1, d2, d3, d4] => { results := [.lit (.bool false)], args := [d1, d2, d3, d4] }
  | _ => none }
def SettleUrgentWrongFalsely : Prop := settleUrgentRow.holds Try.pinned (OpenSpec.ofChange settleUrgentWrong)

/-- 'fingerpostlaw20.SettlePlays': WHATEVER THE INPUT: true; the input reads as it did. -/
def settlePlaysSpec : ChangeSpec := { name := "settlePlays", fn := fun _ => fun
  | [d1, d2] => { results := [.lit (.bool true)], args := [d1, d2] }
  | _ => none }
def settlePlaysRow : OpenClaim := { program := "ytonbjealgdmngaa", sum := "40046692d07094f410be0e8686672a9c7d5ccb8708e47bb4c2cd914d0f5b159a", func := "fingerpost/fingerpostlaw20.SettlePlays", spec := "settlePlays", apart := false }
def SettlePlaysSaid : Prop := settlePlaysRow.holds Try.pinned (OpenSpec.ofChange settlePlaysSpec)

/-- ITS FALSE NEIGHBOUR: 'it returns false'. Refute it at one input. -/
def settlePlaysWrong : ChangeSpec := { name := "settlePlays", fn := fun _ => fun
  | [d1, d2] => { results := [.lit (.bool false)], args := [d1, d2] }
  | _ => none }
def SettlePlaysWrongFalsely : Prop := settlePlaysRow.holds Try.pinned (OpenSpec.ofChange settlePlaysWrong)

/-- 'fingerpostlaw20.SettleNil': WHATEVER THE INPUT: true; the input reads as it did. -/
def settleNilSpec : ChangeSpec := { name := "settleNil", fn := fun _ => fun
  | [d] => { results := [.lit (.bool true)], args := [d] }
  | _ => none }
def settleNilRow : OpenClaim := { program := "ytonbjealgdmngaa", sum := "40046692d07094f410be0e8686672a9c7d5ccb8708e47bb4c2cd914d0f5b159a", func := "fingerpost/fingerpostlaw20.SettleNil", spec := "settleNil", apart := false }
def SettleNilSaid : Prop := settleNilRow.holds Try.pinned (OpenSpec.ofChange settleNilSpec)

/-- ITS FALSE NEIGHBOUR: 'it returns false'. Refute it at one input. -/
def settleNilWrong : ChangeSpec := { name := "settleNil", fn := fun _ => fun
  | [d] => { results := [.lit (.bool false)], args := [d] }
  | _ => none }
def SettleNilWrongFalsely : Prop := settleNilRow.holds Try.pinned (OpenSpec.ofChange settleNilWrong)

/- THE SECOND FORM. 'bulk': how many values and letters a reading holds, each counted each time it is reached (what is shared counts as often as it is met; a slice's spare places count too). A statement '..UptoSaid' is the law's where the arguments, and the package variables that the reading takes, are together of bulk at most 1048576: NARROWER than '..Said'. Prove '..Said' where nothing that the law and all that it calls make is longer than what came in: it says more and counts as full. Else prove '..UptoSaid'. A law counts once. -/
mutual
def uptoBulk {H : Type} : DataW H → Nat
  | .lit (.string bytes) => bytes.length + 1
  | .lit _ => 1
  | .nil => 1
  | .ptr d => uptoBulk d + 1
  | .slice elems spare => uptoBulkAll elems + uptoBulkAll spare + 1
  | .agg parts => uptoBulkAll parts + 1
  | .iface _ d => uptoBulk d + 1
  | .map entries => uptoBulkEntries entries + 1
  | .held _ => 1
def uptoBulkAll {H : Type} : List (DataW H) → Nat
  | [] => 0
  | d :: r => uptoBulk d + uptoBulkAll r
def uptoBulkEntries {H : Type} : List (Lit × DataW H) → Nat
  | [] => 0
  | x :: r => uptoBulkEntry x + uptoBulkEntries r
def uptoBulkEntry {H : Type} : Lit × DataW H → Nat
  | (.string bytes, d) => bytes.length + uptoBulk d + 1
  | (_, d) => uptoBulk d + 1
 end
def uptoSmall : (H : Type) → List (DataW H) → Bool := fun _ ds => decide (uptoBulkAll ds ≤ 1048576)
def OpenSpec.upto (s : _root_.Go.ChangeSpec) : _root_.Go.OpenSpec := { _root_.Go.OpenSpec.ofChange s with cond := some uptoSmall }

/-- 'fingerpostlaw20.SettleSoon', WHERE WHAT IT READS IS OF BULK AT MOST 1048576: true; the input reads as it did. -/
def settleSoonUptoRow : OpenClaim := { program := "ytonbjealgdmngaa", sum := "40046692d07094f410be0e8686672a9c7d5ccb8708e47bb4c2cd914d0f5b159a", func := "fingerpost/fingerpostlaw20.SettleSoon", spec := "settleSoon", apart := false, narrowed := true }
def SettleSoonUptoSaid : Prop := settleSoonUptoRow.holds Try.pinned (OpenSpec.upto settleSoonSpec)

/-- 'fingerpostlaw20.SettleUrgent', WHERE WHAT IT READS IS OF BULK AT MOST 1048576: true; the input reads as it did. -/
def settleUrgentUptoRow : OpenClaim := { program := "ytonbjealgdmngaa", sum := "40046692d07094f410be0e8686672a9c7d5ccb8708e47bb4c2cd914d0f5b159a", func := "fingerpost/fingerpostlaw20.SettleUrgent", spec := "settleUrgent", apart := false, narrowed := true }
def SettleUrgentUptoSaid : Prop := settleUrgentUptoRow.holds Try.pinned (OpenSpec.upto settleUrgentSpec)

/-- 'fingerpostlaw20.SettlePlays', WHERE WHAT IT READS IS OF BULK AT MOST 1048576: true; the input reads as it did. -/
def settlePlaysUptoRow : OpenClaim := { program := "ytonbjealgdmngaa", sum := "40046692d07094f410be0e8686672a9c7d5ccb8708e47bb4c2cd914d0f5b159a", func := "fingerpost/fingerpostlaw20.SettlePlays", spec := "settlePlays", apart := false, narrowed := true }
def SettlePlaysUptoSaid : Prop := settlePlaysUptoRow.holds Try.pinned (OpenSpec.upto settlePlaysSpec)

/-- 'fingerpostlaw20.SettleNil', WHERE WHAT IT READS IS OF BULK AT MOST 1048576: true; the input reads as it did. -/
def settleNilUptoRow : OpenClaim := { program := "ytonbjealgdmngaa", sum := "40046692d07094f410be0e8686672a9c7d5ccb8708e47bb4c2cd914d0f5b159a", func := "fingerpost/fingerpostlaw20.SettleNil", spec := "settleNil", apart := false, narrowed := true }
def SettleNilUptoSaid : Prop := settleNilUptoRow.holds Try.pinned (OpenSpec.upto settleNilSpec)

end Rows
end Go.Proofs.Ytonbjealgdmngaa

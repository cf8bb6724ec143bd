/- PIECES AND NUMBERS THAT CAME IN. -/
import Derived.Test.YtlmabhaenogbcaaOpn
import Derived.Test.YtlmabhaenogbcaaPce13
namespace Go.Fp
open Go Go.RowKit Go.ChangeShapes
theorem flat_ints (k : IntKind) (l : List Int) : (l.map fun n => [Value.int k n]).flatten = l.map (Value.int k) := by
  induction l with
  | nil => rfl
  | cons b l ih => rw [List.map_cons, List.flatten_cons, ih]; rfl
theorem ints_open {H : Type} {enc : TypeId × Value → H} {P : Program} {w : World} {m : Nat} {e : TypeId} {v : Value} (hk : Ck.of P 1 e = some [.int .i64]) (hsz : P.cellsOf e = 1) (h : CellIs enc P w m (.slc e) v) :
    ∃ (x : Option Addr) (c : Nat) (ns : List Int), v = .slice x ns.length c ∧ ns.length ≤ maxLen ∧ Rdz w x ns.length 1 (ns.map (Value.int .i64)) := by
  obtain ⟨x, c, ns, h1, h2, h3, h4, h5, h6, _⟩ := rows_open 1 (fun n => [Value.int .i64 n]) (fun _ => True) hk hsz (by decide) (fun cs h => by
    obtain ⟨v, vs', rfl, h1, h2⟩ := All2.cons h
    obtain ⟨n, rfl, _⟩ := h1
    obtain rfl := All2.nil h2
    exact ⟨n, rfl, trivial⟩) h
  rw [flat_ints] at h6
  exact ⟨x, c, ns, h1, Nat.le_trans h2 h3, h6⟩
end Go.Fp
namespace Go.Proofs.Ytlmabhaenogbcaa
open Go.ChangeShapes Go.RowKit Go.Fp
def prKs : List Ck := [.int .u32, .int .i64, .int .i64, .slc 5]
theorem prs_open {H : Type} {enc : TypeId × Value → H} {w : World} {m : Nat} {v : Value} (h : CellIs enc Try.prog w m (.slc 34) v) :
    ∃ (x : Option Addr) (c : Nat) (ls : List Pr), v = .slice x ls.length c ∧ ls.length ≤ maxLen ∧ Rdz w x ls.length 4 (ls.map Pr.cells).flatten ∧ ∀ r, r ∈ ls → (r.x = none → r.p.part.length = 0 ∧ r.c = 0) ∧ r.p.part.length ≤ m ∧ Rdz w r.x r.p.part.length 1 (u8s r.p.part) := by
  obtain ⟨x, c, ls, h1, h2, h3, h4, h5, h6, h7⟩ := rows_open 4 (ks := prKs) Pr.cells (fun r => (r.x = none → r.p.part.length = 0 ∧ r.c = 0) ∧ r.p.part.length ≤ m ∧ Rdz w r.x r.p.part.length 1 (u8s r.p.part)) (by kernel_rfl) (by kernel_rfl) (by decide) (fun cs h => by
    obtain ⟨k1, c1, rfl, ⟨id, rfl, w1⟩, h1⟩ := h.cons
    obtain ⟨k2, c2, rfl, ⟨pl, rfl, _⟩, h2⟩ := h1.cons
    obtain ⟨k3, c3, rfl, ⟨many, rfl, _⟩, h3⟩ := h2.cons
    obtain ⟨k4, c4, rfl, hb, h4⟩ := h3.cons
    obtain rfl := h4.nil
    obtain ⟨xb, cb, bs, rfl, b1, b2, b3, b4, b5⟩ := bytes_open (by kernel_rfl) (by kernel_rfl) hb
    have hid := wf_u32 w1
    obtain ⟨n, rfl⟩ : ∃ n : Nat, id = n := ⟨id.toNat, by omega⟩
    exact ⟨⟨⟨n, pl, many, bs⟩, xb, cb⟩, rfl, b4, by dsimp only; omega, b5⟩) h
  exact ⟨x, c, ls, h1, Nat.le_trans h2 h3, h6, h7⟩
end Go.Proofs.Ytlmabhaenogbcaa

/- SLICES OF BYTES that came in. -/
import Derived.Test.YtfcmjlbfoindaaaBase
namespace Go.Proofs.Ytfcmjlbfoindaaa
open Go.ChangeShapes Go.RowKit Go.Fp
set_option maxHeartbeats 4000000
structure Bdy where
  x : Option Addr
  c : Nat
  bs : List UInt8
def Bdy.cell (b : Bdy) : Value := .slice b.x b.bs.length b.c
def Bdy.ob (b : Bdy) : Ob := Ob.rd b.x b.bs.length 1 (u8s b.bs)
theorem bdy_cell {w : World} {B off n : Nat} {l : List Bdy} (h : Rdz w (some ⟨B, off, none⟩) n 1 (l.map Bdy.cell)) {j : Nat} {b : Bdy} (hj : l[j]? = some b) : w.cell? ⟨B, off + j * 1, none⟩ = some (.slice b.x b.bs.length b.c) :=
  h.cell rfl (by rw [Nat.mul_one, List.getElem?_map, hj]; rfl)
theorem bdys_open {H : Type} {enc : TypeId × Value → H} {w : World} {m : Nat} {v : Value} (h : CellIs enc Try.prog w m (.slc 76) v) :
    ∃ (x : Option Addr) (c : Nat) (ys : List Bdy), v = .slice x ys.length c ∧ ys.length ≤ c ∧ c ≤ maxLen ∧ Rdz w x ys.length 1 (ys.map Bdy.cell) ∧ ∀ b, b ∈ ys → (b.x = none → b.bs.length = 0 ∧ b.c = 0) ∧ Rdz w b.x b.bs.length 1 (u8s b.bs) := by
  obtain ⟨x, c, ys, h1, h2, h3, h4, h5, h6, h7⟩ := rows_open 4 (ks := [.slc 5]) (fun b : Bdy => [b.cell]) (fun b => (b.x = none → b.bs.length = 0 ∧ b.c = 0) ∧ Rdz w b.x b.bs.length 1 (u8s b.bs)) (by kernel_rfl) (by kernel_rfl) (by decide) (fun cs h => by
    obtain ⟨k1, c1, rfl, hb, h2⟩ := h.cons
    obtain rfl := h2.nil
    obtain ⟨bx, bc, body, rfl, _, _, _, b5, b6⟩ := bytes_open (by kernel_rfl) (by kernel_rfl) hb
    exact ⟨⟨bx, bc, body⟩, rfl, b5, b6⟩) h
  have e : (ys.map fun b : Bdy => [b.cell]).flatten = ys.map Bdy.cell := by
    clear h1 h2 h5 h6 h7
    induction ys with
    | nil => rfl
    | cons a l ih => rw [List.map_cons, List.flatten_cons, ih]; rfl
  rw [e] at h6
  exact ⟨x, c, ys, h1, h2, h3, h6, h7⟩
end Go.Proofs.Ytfcmjlbfoindaaa

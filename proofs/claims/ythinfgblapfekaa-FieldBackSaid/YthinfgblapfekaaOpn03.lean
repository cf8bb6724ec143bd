/- ITEMS THAT CAME IN. -/
import Derived.Test.YthinfgblapfekaaOpn
import Derived.Test.YthinfgblapfekaaItm03
namespace Go.Proofs.Ythinfgblapfekaa
open Go.ChangeShapes Go.RowKit Go.Fp
section
variable {H : Type} {enc : TypeId × Value → H} {w : World} {m : Nat}
def ItmQ (w : World) (i : Itm) : Prop := i.Ok ∧ Rdz w i.sx i.sums.length 16 (u8s i.sums.flatten) ∧ Rdz w i.bx i.blob.length 1 (u8s i.blob)
def itmKs : List Ck := [.int .i64, .int .u64] ++ List.replicate 16 (.int .u8) ++ [.slc 42, .slc 5, .int .i64]
theorem itms_open {v : Value} (h : CellIs enc Try.prog w m (.slc 45) v) :
    ∃ (x : Option Addr) (c : Nat) (its : List Itm), v = .slice x its.length c ∧ its.length ≤ c ∧ c ≤ maxLen ∧ c ≤ m ∧ (x = none → its.length = 0 ∧ c = 0) ∧ Rdz w x its.length 21 (its.map Itm.cells).flatten ∧ ∀ i, i ∈ its → ItmQ w i :=
  rows_open 4 (ks := itmKs) Itm.cells (ItmQ w) (by kernel_rfl) (by kernel_rfl) (by decide) (fun cs h => by
    obtain ⟨a, b, rfl, h1, h2⟩ := All2.split (ks := [.int .i64, .int .u64] ++ List.replicate 16 (.int .u8)) (ks' := [.slc 42, .slc 5, .int .i64]) h
    obtain ⟨a1, a2, rfl, h3, h4⟩ := h1.split
    obtain ⟨k, c3, rfl, ⟨k, rfl, _⟩, h5⟩ := h3.cons
    obtain ⟨n, c4, rfl, ⟨n, rfl, wn⟩, h6⟩ := h5.cons
    obtain rfl := h6.nil
    obtain ⟨sum, hsum, rfl⟩ := h4.bytes
    obtain ⟨s, c5, rfl, hs, h7⟩ := h2.cons
    obtain ⟨bl, c6, rfl, hb, h8⟩ := h7.cons
    obtain ⟨mo, c7, rfl, ⟨mo, rfl, wm⟩, h9⟩ := h8.cons
    obtain rfl := h9.nil
    obtain ⟨sx, sc, sums, rfl, _, _, _, _, s6, s7⟩ := sums_open 2 (k := 16) (by kernel_rfl) (by kernel_rfl) (by decide) hs
    obtain ⟨bx, bc, blob, rfl, _, _, _, b5, b6⟩ := bytes_open (by kernel_rfl) (by kernel_rfl) hb
    have wn := wf_u64 wn
    have wm := wf_i64 wm
    refine ⟨⟨k, n.toNat, sum, sx, sc, sums, bx, bc, blob, mo⟩, ?_, ⟨⟨by dsimp only; omega, hsum, s7, b5, by dsimp only; omega⟩, s6, b6⟩⟩
    have : ((n.toNat : Nat) : Int) = n := by omega
    simp [Itm.cells, this]) h
/-- What the items' parts are. -/
def itmObs (its : List Itm) : List Ob := its.flatMap fun i => [Ob.rd i.sx i.sums.length 16 (u8s i.sums.flatten), Ob.rd i.bx i.blob.length 1 (u8s i.blob)]
theorem itmR (its : List Itm) (h : ∀ i, i ∈ its → ItmQ w i) (m : List Ob) (hm : ∀ o, o ∈ itmObs its → o ∈ m) : ItmR m its := fun i hi =>
  ⟨(h i hi).1, hm _ (List.mem_flatMap.2 ⟨i, hi, by simp⟩), hm _ (List.mem_flatMap.2 ⟨i, hi, by simp⟩)⟩
theorem itmObs_start (its : List Itm) (h : ∀ i, i ∈ its → ItmQ w i) (o : Ob) (ho : o ∈ itmObs its) : ∃ f, o.P f w := by
  obtain ⟨i, hi, ho⟩ := List.mem_flatMap.1 ho
  simp only [List.mem_cons, List.not_mem_nil, or_false] at ho
  rcases ho with rfl | rfl
  · obtain ⟨f, h, _⟩ := of_rd (h i hi).2.1; exact ⟨f, h⟩
  · obtain ⟨f, h, _⟩ := of_rd (h i hi).2.2; exact ⟨f, h⟩
end
end Go.Proofs.Ythinfgblapfekaa

/- THE WALK of the document's PutUpdate. -/
import Derived.Test.YtemhcflaldeakaaPU21
import Derived.Test.YtemhcflaldeakaaRefO03
namespace Go.Fp
open Go Go.RowKit
theorem Ent.blk_part {g T o n sz : Nat} {vs xs : List Value} (hl : xs.length = n * sz) (hv : (vs.drop o).take (n * sz) = xs) (hn : 0 < n) : Ob.Ent (Ob.blk g T vs) (Ob.rd (some ⟨g, o, none⟩) n sz xs) := by
  rintro f w ⟨rfl, h⟩
  obtain ⟨f', h1, h2⟩ := of_rd (blk_rdz (o := o) h hl hv)
  exact ⟨f', h1, fun k hk => by
    obtain ⟨off, e, _⟩ := h2 k hk
    cases e; simp⟩
end Go.Fp
namespace Go.Proofs.Ytemhcflaldeakaa
open Go.RowKit Go.Fp
set_option maxHeartbeats 16000000
theorem rNum (x : Option Addr) (c : Nat) (bs : List UInt8) (n k : Nat) (hlen : bs.length ≤ 100000) (hk : k = 1 ∨ k = 2 ∨ k = 4 ∨ k = 8) (hn : n / 256 ^ k = 0) (hn2 : n < 18446744073709551616) (f : List Nat) (w : World) {m : List Ob} (hT : Tk f w w [Ob.own 5 1 (.slice x bs.length c) bs.length (u8s bs)] m) :
    Calls Try.prog 40 #[.agg #[.slice x bs.length c, .bool false], .int .u64 n, .int .i64 k] w fun e w' => ∃ x' c', e = .returned (.agg #[.slice x' (bs ++ be k n).length c', .bool false]) ∧ Tk f w w' [Ob.own 5 1 (.slice x' (bs ++ be k n).length c') (bs ++ be k n).length (u8s (bs ++ be k n))] m := by
  have h := ref_Num x c (bs, false) n k hn2 hk (by dsimp only; omega) f w hT
  rwa [numO_fit (o := (bs, false)) hn] at h
theorem rRaw (x : Option Addr) (c : Nat) (bs : List UInt8) (hlen : bs.length ≤ 100000) (g o d : Nat) (s : List UInt8) (hs : s.length = 16) (f : List Nat) (w : World) {m : List Ob} (hT : Tk f w w [Ob.own 5 1 (.slice x bs.length c) bs.length (u8s bs)] (Ob.rd (some ⟨g, o, none⟩) 16 1 (u8s s) :: m)) :
    Calls Try.prog 55 #[.agg #[.slice x bs.length c, .bool false], .slice (some ⟨g, o, none⟩) 16 d] w fun e w' => ∃ x' c', e = .returned (.agg #[.slice x' (bs ++ s).length c', .bool false]) ∧ Tk f w w' [Ob.own 5 1 (.slice x' (bs ++ s).length c') (bs ++ s).length (u8s (bs ++ s))] (Ob.rd (some ⟨g, o, none⟩) 16 1 (u8s s) :: m) :=
  ref_Raw x c (bs, false) (by dsimp only; omega) _ 16 d s hs (fun h => by cases h) (by omega) f w hT
end Go.Proofs.Ytemhcflaldeakaa

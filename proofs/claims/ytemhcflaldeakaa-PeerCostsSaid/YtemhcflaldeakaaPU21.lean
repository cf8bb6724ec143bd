/- THE WALK of the program's PutUpdate. -/
import Derived.Test.YtemhcflaldeakaaKey21
import Derived.Test.YtemhcflaldeakaaBd21
import Derived.Test.YtemhcflaldeakaaFb
namespace Go.Proofs.Ytemhcflaldeakaa
open Go.RowKit Go.Fp
attribute [local irreducible] Go.Calls
set_option maxRecDepth 100000
set_option maxHeartbeats 16000000
section
variable (q : Nat) (bs : List UInt8) (hlen : bs.length ≤ 100000) (f : List Nat) (w : World) {m : List Ob} (hT : Tk f w w [Out q bs false] m)
include hlen hT
theorem oU8 (n : Nat) (hn : n < 256) : Calls Try.prog 51 #[.pointer (some ⟨q, 0, none⟩), .int .u64 n] w fun e w' => e = .returned (.tuple #[]) ∧ Tk f w w' [Out q (bs ++ be 1 n) false] m := by
  have h := Out_U8 q (bs, false) n (by dsimp only; omega) f w hT
  rwa [numO_fit (k := 1) (o := (bs, false)) (Nat.div_eq_of_lt (by omega))] at h
end
/-- What an update's entries are read from. -/
def EnR (m : List Ob) (es : List En) : Prop := ∀ e, e ∈ es → e.Ok ∧ e.wob ∈ m ∧ e.pob ∈ m
def PUPost (x : Option Addr) (es : List En) (w : World) (m : List Ob) (full : Bool) (e : Ending) (w' : World) : Prop :=
  ∃ (x' : Option Addr) (c' : Nat), e = .returned (.tuple #[.slice x' (putU full es).1.length c', .int .i64 (putU full es).2]) ∧ Tk [] w w' [Ob.own 5 1 (.slice x' (putU full es).1.length c') (putU full es).1.length (u8s (putU full es).1)] (Ob.rd x es.length 22 (es.map En.cells).flatten :: m)
theorem putU_ok {full : Bool} {es : List En} (h8 : ¬ 8 < es.length) (hg : ensGood none es) : putU full es = (be 1 (if full then 1 else 0) ++ be 1 es.length ++ es.flatMap En.enc, 0) := by unfold putU; rw [if_neg h8, if_pos hg]
theorem putU_bad {full : Bool} {es : List En} (h8 : ¬ 8 < es.length) {j : Nat} {e : En} (hj : es[j]? = some e) (hg : ensGood none (es.take j)) (hb : ¬ En.good (prevE none es j) e) : putU full es = ([], 1) := by
  unfold putU
  rw [if_neg h8, if_neg]
  intro h
  exact hb ((ensGood_take hj hg).1 (ensGood_le h))
theorem putU_len (full : Bool) {es : List En} (h : ∀ e, e ∈ es → e.Ok) : (putU full es).1.length ≤ 1400 := by
  have key : ∀ (l : List En) (p : Option En), (∀ e, e ∈ l → e.Ok) → ensGood p l → (l.flatMap En.enc).length ≤ l.length * 169 := by
    intro l
    induction l with
    | nil => intro p _ _; simp
    | cons a l ih =>
      intro p h hg
      have := ih (some a) (fun e he => h e (List.mem_cons_of_mem _ he)) hg.2
      have := En.enc_len (h a (by simp)) hg.1
      rw [List.flatMap_cons, List.length_append, List.length_cons]; omega
  unfold putU
  split
  · simp
  · split
    · rename_i h8 hg
      have := key es none h hg
      simp only [List.length_append, be_length]; omega
    · simp
section
variable (x : Option Addr) (c : Nat) (es : List En) (w : World) {m : List Ob} (hm : EnR m es) (hT : Tk [] w w [] (Ob.rd x es.length 22 (es.map En.cells).flatten :: m))
include hm hT
end
end Go.Proofs.Ytemhcflaldeakaa

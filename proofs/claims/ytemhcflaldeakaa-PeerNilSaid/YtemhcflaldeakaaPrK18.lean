/- FROM CONTRACTS OF BLOCKS to contracts of objects: windows, counters, tolls. -/
import Derived.Test.YtemhcflaldeakaaWin
import Derived.Test.YtemhcflaldeakaaToll
import Derived.Test.YtemhcflaldeakaaSl3
import Derived.Test.YtemhcflaldeakaaFc
namespace Go.Fp
open Go Go.RowKit
section
variable {S f : List Nat} {w0 w w' : World} {l m : List Ob} {g T : Nat} {cs cs' : List Value}
/-- A block was turned, by whoever knows it. -/
theorem Tk.old1 (hT : Tk f w w [Ob.blk g T cs] m) (hh : Has w' g T cs'.toArray) (hf : Fr [g] w w') : Tk f w w' [Ob.blk g T cs'] m :=
  hT.turn 0 rfl fun f' ⟨e, _⟩ => ⟨f', ⟨e, hh⟩, by rw [e]; exact hf, fun k hk => .inl hk⟩
theorem Tk.old0 (hT : Tk S w0 w l m) (hf : Fr [] w w') : Tk S w0 w' l m := hT.same hf
/-- A call is handed the first two, three, four. -/
theorem Tk.frame2 {a b : Ob} {l2 : List Ob} (m' : List Ob) (h : Tk S w0 w (a :: b :: l2) m) (hm : ∀ o, o ∈ m' → ∃ o', o' ∈ l2 ++ m ∧ Ob.Ent o' o) : ∃ f, Tk f w w [a, b] m' ∧ ∀ w' l1' m1, Tk f w w' l1' m1 → Tk S w0 w' (l1' ++ l2) m := Tk.frame (l1 := [a, b]) h hm
theorem Tk.frame3 {a b c : Ob} {l2 : List Ob} (m' : List Ob) (h : Tk S w0 w (a :: b :: c :: l2) m) (hm : ∀ o, o ∈ m' → ∃ o', o' ∈ l2 ++ m ∧ Ob.Ent o' o) : ∃ f, Tk f w w [a, b, c] m' ∧ ∀ w' l1' m1, Tk f w w' l1' m1 → Tk S w0 w' (l1' ++ l2) m := Tk.frame (l1 := [a, b, c]) h hm
theorem Tk.frame4 {a b c d : Ob} {l2 : List Ob} (m' : List Ob) (h : Tk S w0 w (a :: b :: c :: d :: l2) m) (hm : ∀ o, o ∈ m' → ∃ o', o' ∈ l2 ++ m ∧ Ob.Ent o' o) : ∃ f, Tk f w w [a, b, c, d] m' ∧ ∀ w' l1' m1, Tk f w w' l1' m1 → Tk S w0 w' (l1' ++ l2) m := Tk.frame (l1 := [a, b, c, d]) h hm
/-- A new block. -/
theorem Tk.oldN (hT : Tk S w0 w l m) (hh : Has w' g T cs'.toArray) (hg : w.heap.size ≤ g) (hf : Fr [] w w') : Tk S w0 w' (Ob.blk g T cs' :: l) m :=
  (hT.call0 [] (fun o ho => (by cases ho))).2 w' [Ob.blk g T cs'] [] ⟨hf, [g], ⟨[g], [], rfl, ⟨rfl, hh⟩, rfl, fun k _ hk => (by cases hk)⟩, fun k hk => (by simp at hk; subst hk; exact .inr hg), fun o ho => (by cases ho)⟩
end
end Go.Fp
namespace Go.Proofs.Ytemhcflaldeakaa
open Go.RowKit Go.Fp
def WinS.cl (s : WinS) : List Value := [.int .i64 s.size, .int .u64 s.boot, .int .u64 s.top, .int .u64 s.seen, .bool s.any]
def CtrS.cl (s : CtrS) : List Value := [.int .u64 s.boot, .int .u64 s.last]
def TollS.cl (s : TollS) : List Value := [.int .i64 s.r.f, .int .i64 s.r.ft, .int .i64 s.r.b, .int .i64 s.r.bt, .int .i64 s.fr, .int .i64 s.bl, .int .i64 s.ow]
instance ratesDec (r : RatesS) : Decidable r.ok := by unfold RatesS.ok; infer_instance
def RatesS.cl (r : RatesS) : List Value := [.int .i64 r.f, .int .i64 r.ft, .int .i64 r.b, .int .i64 r.bt]
section
variable {f : List Nat} {w : World} {m : List Ob}
theorem w_Take (g : Nat) (s : WinS) (b c : Int) (hs : s.ok) (b0 : 0 ≤ b) (c0 : 0 ≤ c) (c1 : c < 18446744073709551616) (hT : Tk f w w [Ob.blk g 97 s.cl] m) :
    Calls Try.prog 34 #[.pointer (some ⟨g, 0, none⟩), .int .u64 b, .int .u64 c] w fun e w' => e = .returned (.int .i64 (takeF s b c).1) ∧ Tk f w w' [Ob.blk g 97 (takeF s b c).2.cl] m :=
  Calls.mono (win_Take g s b c w (hT.has 0 rfl) hs b0 c0 c1) fun _ _ ⟨h1, h2, h3⟩ => ⟨h1, hT.old1 h2 h3⟩
theorem w_New (n : Int) (h1 : 1 ≤ n) (h2 : n ≤ 64) (hT : Tk [] w w [] m) :
    Calls Try.prog 24 #[.int .i64 n] w fun e w' => ∃ g, e = .returned (.tuple #[.pointer (some ⟨g, 0, none⟩), .int .i64 0]) ∧ Tk [] w w' [Ob.blk g 97 (⟨n, 0, 0, 0, false⟩ : WinS).cl] m :=
  Calls.mono (win_New_ok n w h1 h2) fun _ _ ⟨g, h1, h2, h3, h4⟩ => ⟨g, h1, hT.oldN h3 h2 h4⟩
theorem w_Begin (b : Int) (hb : ¬ b = 0) (hT : Tk [] w w [] m) :
    Calls Try.prog 23 #[.int .u64 b] w fun e w' => ∃ g, e = .returned (.tuple #[.pointer (some ⟨g, 0, none⟩), .int .i64 0]) ∧ Tk [] w w' [Ob.blk g 95 (⟨b, 0⟩ : CtrS).cl] m :=
  Calls.mono (win_Begin b w (by simpa using hb)) fun _ _ ⟨g, h1, h2, h3, h4⟩ => ⟨g, h1, hT.oldN h3 h2 h4⟩
theorem w_Next (g : Nat) (s : CtrS) (h0 : 0 ≤ s.last) (h1 : s.last < 18446744073709551615) (hT : Tk f w w [Ob.blk g 95 s.cl] m) :
    Calls Try.prog 37 #[.pointer (some ⟨g, 0, none⟩)] w fun e w' => e = .returned (.tuple #[.int .u64 s.boot, .int .u64 (s.last + 1), .int .i64 0]) ∧ Tk f w w' [Ob.blk g 95 (⟨s.boot, s.last + 1⟩ : CtrS).cl] m :=
  Calls.mono (win_Next g s w (hT.has 0 rfl) h0 h1) fun _ _ ⟨h1, h2, h3⟩ => ⟨h1, hT.old1 h2 h3⟩
theorem w_Next_no (g : Nat) (s : CtrS) (h1 : s.last = 18446744073709551615) (hT : Tk f w w [Ob.blk g 95 s.cl] m) :
    Calls Try.prog 37 #[.pointer (some ⟨g, 0, none⟩)] w fun e w' => e = .returned (.tuple #[.int .u64 0, .int .u64 0, .int .i64 21]) ∧ Tk f w w' [Ob.blk g 95 s.cl] m :=
  Calls.mono (win_Next_no g s w (hT.has 0 rfl) h1) fun _ _ ⟨h1, h2⟩ => ⟨h1, h2 ▸ hT⟩
theorem t_New (r : RatesS) (hr : r.ok) (hT : Tk [] w w [] m) :
    Calls Try.prog 25 #[.agg r.cl.toArray] w fun e w' => ∃ g, e = .returned (.tuple #[.pointer (some ⟨g, 0, none⟩), .int .i64 0]) ∧ Tk [] w w' [Ob.blk g 99 (⟨r, r.f, r.b, 0⟩ : TollS).cl] m :=
  Calls.mono (toll_New_ok r w hr) fun _ _ ⟨g, h1, h2, h3, h4⟩ => ⟨g, h1, hT.oldN h3 h2 h4⟩
theorem t_Right (r : RatesS) (hT : Tk [] w w [] m) :
    Calls Try.prog 36 #[.agg r.cl.toArray] w fun e w' => e = .returned (.bool (bdec r.ok)) ∧ Tk [] w w' [] m := by
  refine Calls.mono (toll_Right r w) fun _ w' => ?_
  rintro ⟨v, rfl, hv, hf⟩
  refine ⟨?_, hT.same hf⟩
  by_cases hr : r.ok
  · rw [hv.2 hr, bdec_true' hr]
  · have : v = false := by cases v; rfl; exact absurd (hv.1 rfl) hr
    rw [this, bdec_false' hr]
theorem t_Frame (g : Nat) (s : TollS) (n : Int) (hs : s.ok) (hT : Tk f w w [Ob.blk g 99 s.cl] m) :
    Calls Try.prog 32 #[.pointer (some ⟨g, 0, none⟩), .int .i64 n] w fun e w' => e = .returned (.int .i64 (frameF s n).1) ∧ Tk f w w' [Ob.blk g 99 (frameF s n).2.cl] m :=
  Calls.mono (toll_Frame g s n w hs (hT.has 0 rfl)) fun _ _ ⟨h1, h2, h3⟩ => ⟨h1, hT.old1 h2 h3⟩
theorem t_Tick (g : Nat) (s : TollS) (n : Int) (hs : s.ok) (hT : Tk f w w [Ob.blk g 99 s.cl] m) :
    Calls Try.prog 26 #[.pointer (some ⟨g, 0, none⟩), .int .i64 n] w fun e w' => e = .returned (.int .i64 (tickF s n).1) ∧ Tk f w w' [Ob.blk g 99 (tickF s n).2.cl] m :=
  Calls.mono (toll_Tick g s n w hs (hT.has 0 rfl)) fun _ _ ⟨h1, h2, h3⟩ => ⟨h1, hT.old1 h2 h3⟩
end
end Go.Proofs.Ytemhcflaldeakaa

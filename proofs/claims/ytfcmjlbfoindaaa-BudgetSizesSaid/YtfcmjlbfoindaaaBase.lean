/- What is said of the program itself: its regions' orders are open. -/
import Derived.Test.YtfcmjlbfoindaaaRows
import Derived.Test.YtfcmjlbfoindaaaFpKit
import Derived.Test.YtfcmjlbfoindaaaFpText
import Derived.WalkKit
import Derived.WalkSpells
import Derived.WalkLawsBesides
import Derived.Test.YtfcmjlbfoindaaaFpRow
import Derived.Test.YtfcmjlbfoindaaaSl
namespace Go.Proofs.Ytfcmjlbfoindaaa
open Go.RowKit Go.Fp
theorem Try.mixed : Try.prog.follows .mixedOrders = true := by kernel_rfl
end Go.Proofs.Ytfcmjlbfoindaaa
/- What the rows ask of the program. -/
namespace Go.Proofs.Ytfcmjlbfoindaaa
theorem Try.own : ownKnob Try.prog.godebug = none := by kernel_rfl
theorem Try.laidOut : laidOutB Try.prog = true := by kernel_rfl
theorem wf_u64 {n : Int} (h : (Lit.int .u64 n).wf = true) : 0 ≤ n ∧ n < 18446744073709551616 := by simp [Lit.wf, IntKind.bits, IntKind.signed, IntKind.min, IntKind.max] at h; omega
theorem wf_i64 {n : Int} (h : (Lit.int .i64 n).wf = true) : -9223372036854775808 ≤ n ∧ n < 9223372036854775808 := by simp [Lit.wf, IntKind.bits, IntKind.signed, IntKind.min, IntKind.max] at h; omega
theorem wf_u32 {n : Int} (h : (Lit.int .u32 n).wf = true) : 0 ≤ n ∧ n < 4294967296 := by simp [Lit.wf, IntKind.bits, IntKind.signed, IntKind.min, IntKind.max] at h; omega
theorem wf_u16 {n : Int} (h : (Lit.int .u16 n).wf = true) : 0 ≤ n ∧ n < 65536 := by simp [Lit.wf, IntKind.bits, IntKind.signed, IntKind.min, IntKind.max] at h; omega
theorem wf_u8 {n : Int} (h : (Lit.int .u8 n).wf = true) : 0 ≤ n ∧ n < 256 := by simp [Lit.wf, IntKind.bits, IntKind.signed, IntKind.min, IntKind.max] at h; omega
end Go.Proofs.Ytfcmjlbfoindaaa
/- WHAT CAME IN, OPENED: rows of slices, bytes, short sums. -/
namespace Go.Fp
open Go Go.RowKit Go.ChangeShapes
section
variable {H : Type} {enc : TypeId × Value → H} {P : Program} {w : World} {m : Nat}
theorem All2.split : ∀ {ks ks' : List Ck} {vs : List Value}, All2 enc P w m (ks ++ ks') vs → ∃ a b, vs = a ++ b ∧ All2 enc P w m ks a ∧ All2 enc P w m ks' b
  | [], _, vs, h => ⟨[], vs, rfl, trivial, h⟩
  | k :: ks, ks', vs, h => by
    obtain ⟨v, vs', rfl, h1, h2⟩ := All2.cons h
    obtain ⟨a, b, rfl, h3, h4⟩ := All2.split h2
    exact ⟨v :: a, b, rfl, ⟨h1, h3⟩, h4⟩
theorem CellIs.u8 {v : Value} (h : CellIs enc P w m (.int .u8) v) : ∃ b : UInt8, v = Fp.u8 b := by
  obtain ⟨n, rfl, hw⟩ := h
  have : 0 ≤ n ∧ n < 256 := by simp [Lit.wf, IntKind.bits, IntKind.signed, IntKind.min, IntKind.max] at hw; omega
  exact ⟨UInt8.ofNat n.toNat, by unfold Fp.u8; congr 1; simp; omega⟩
theorem All2.bytes : ∀ {n : Nat} {vs : List Value}, All2 enc P w m (List.replicate n (.int .u8)) vs → ∃ l : List UInt8, l.length = n ∧ vs = u8s l
  | 0, vs, h => ⟨[], rfl, All2.nil h⟩
  | n + 1, vs, h => by
    rw [List.replicate_succ] at h
    obtain ⟨v, vs', rfl, h1, h2⟩ := All2.cons h
    obtain ⟨b, rfl⟩ := h1.u8
    obtain ⟨l, hl, rfl⟩ := All2.bytes h2
    exact ⟨b :: l, by simp [hl], rfl⟩
theorem collect {α : Type} {n : Nat} {R : Nat → α → Prop} (h : ∀ i, i < n → ∃ x, R i x) : ∃ l : List α, l.length = n ∧ ∀ i (hi : i < l.length), R i l[i] := by
  induction n with
  | zero => exact ⟨[], rfl, fun i hi => by simp at hi⟩
  | succ n ih =>
    obtain ⟨l, hl, hR⟩ := ih (fun i hi => h i (by omega))
    obtain ⟨x, hx⟩ := h n (by omega)
    refine ⟨l ++ [x], by simp [hl], fun i hi => ?_⟩
    rw [List.getElem_append]
    split
    · exact hR i _
    · rename_i h1
      have : i = n := by simp at hi; omega
      subst this
      simpa using hx
/-- A slice of rows that came in. -/
theorem rows_open {α : Type} {e : TypeId} {ks : List Ck} {v : Value} (n : Nat) (f : α → List Value) (Q : α → Prop) (hk : Ck.of P n e = some ks) (hsz : P.cellsOf e = ks.length) (hpos : 0 < ks.length)
    (hq : ∀ cs, All2 enc P w m ks cs → ∃ a, cs = f a ∧ Q a) (h : CellIs enc P w m (.slc e) v) :
    ∃ (x : Option Addr) (c : Nat) (ys : List α), v = .slice x ys.length c ∧ ys.length ≤ c ∧ c ≤ maxLen ∧ c ≤ m ∧ (x = none → ys.length = 0 ∧ c = 0) ∧ Rdz w x ys.length ks.length (ys.map f).flatten ∧ ∀ a, a ∈ ys → Q a := by
  obtain ⟨x, len, cap, B, off, rfl, h1, h2, h3, h4, h5, h6⟩ := slice_open n hk hsz hpos h
  obtain ⟨ys, hl, hR⟩ := collect (R := fun i a => Q a ∧ (f a).length = ks.length ∧ ∀ j, j < ks.length → w.cell? ⟨B, off + i * ks.length + j, none⟩ = (f a)[j]?) (fun i hi => by
    obtain ⟨cs, g1, g2⟩ := h6 i hi
    obtain ⟨a, rfl, g3⟩ := hq cs g1
    exact ⟨a, g3, All2.length g1, g2⟩)
  subst hl
  have hls : ∀ l, l ∈ ys.map f → l.length = ks.length := fun l hl => by
    obtain ⟨a, ha, rfl⟩ := List.mem_map.1 hl
    obtain ⟨i, hi, rfl⟩ := List.mem_iff_getElem.1 ha
    exact (hR i hi).2.1
  have hflat : ∀ (ls : List (List Value)), (∀ l, l ∈ ls → l.length = ks.length) → ls.flatten.length = ls.length * ks.length := by
    intro ls
    induction ls with
    | nil => simp
    | cons l ls ih => intro h; rw [List.flatten_cons, List.length_append, ih (fun x hx => h x (List.mem_cons_of_mem _ hx)), h l (by simp), List.length_cons, Nat.add_mul]; omega
  have hget : ∀ (ls : List (List Value)), (∀ l, l ∈ ls → l.length = ks.length) → ∀ j u, ls.flatten[j]? = some u → ∃ i r l, j = i * ks.length + r ∧ r < ks.length ∧ ls[i]? = some l ∧ l[r]? = some u := by
    intro ls
    induction ls with
    | nil => intro _ j u h; simp at h
    | cons l ls ih =>
      intro h j u hj
      have hl := h l (by simp)
      rw [List.flatten_cons] at hj
      by_cases hj1 : j < l.length
      · rw [List.getElem?_append_left hj1] at hj
        exact ⟨0, j, l, by omega, by omega, rfl, hj⟩
      · rw [List.getElem?_append_right (by omega)] at hj
        obtain ⟨i, r, l', e1, e2, e3, e4⟩ := ih (fun x hx => h x (List.mem_cons_of_mem _ hx)) _ _ hj
        exact ⟨i + 1, r, l', by rw [Nat.add_mul]; omega, e2, by simpa using e3, e4⟩
  refine ⟨x, cap, ys, rfl, h1, h2, h3, h5, ⟨by rw [hflat _ hls, List.length_map], fun hp => ?_⟩, fun a ha => ?_⟩
  · obtain ⟨g1, g2⟩ := h4 hp
    refine ⟨B, off, g1, g2, fun j u hj => ?_⟩
    obtain ⟨i, r, l, rfl, e2, e3, e4⟩ := hget _ hls j u hj
    rw [List.getElem?_map] at e3
    cases hi : ys[i]? with
    | none => rw [hi] at e3; cases e3
    | some a =>
      rw [hi] at e3
      simp only [Option.map_some, Option.some.injEq] at e3
      subst e3
      obtain ⟨hil, rfl⟩ := List.getElem?_eq_some_iff.1 hi
      rw [← Nat.add_assoc, (hR i hil).2.2 r e2, e4]
  · obtain ⟨i, hi, rfl⟩ := List.mem_iff_getElem.1 ha
    exact (hR i hi).1
theorem flat_u8 (l : List UInt8) : (l.map fun b => [u8 b]).flatten = u8s l := by
  induction l with
  | nil => rfl
  | cons b l ih => rw [List.map_cons, List.flatten_cons, ih]; rfl
theorem flat_sums (ls : List (List UInt8)) : (ls.map u8s).flatten = u8s ls.flatten := by simp [u8s, List.map_flatten]; rfl
theorem bytes_open {e : TypeId} {v : Value} (hk : Ck.of P 1 e = some [.int .u8]) (hsz : P.cellsOf e = 1) (h : CellIs enc P w m (.slc e) v) :
    ∃ (x : Option Addr) (c : Nat) (bs : List UInt8), v = .slice x bs.length c ∧ bs.length ≤ c ∧ c ≤ maxLen ∧ c ≤ m ∧ (x = none → bs.length = 0 ∧ c = 0) ∧ Rdz w x bs.length 1 (u8s bs) := by
  obtain ⟨x, c, bs, h1, h2, h3, h4, h5, h6, _⟩ := rows_open 1 (fun b => [u8 b]) (fun _ => True) hk hsz (by decide) (fun cs h => by
    obtain ⟨v, vs', rfl, h1, h2⟩ := All2.cons h
    obtain ⟨b, rfl⟩ := h1.u8
    obtain rfl := All2.nil h2
    exact ⟨b, rfl, trivial⟩) h
  rw [flat_u8] at h6
  exact ⟨x, c, bs, h1, h2, h3, h4, h5, h6⟩
theorem sums_open {e k : Nat} {v : Value} (n : Nat) (hk : Ck.of P n e = some (List.replicate k (.int .u8))) (hsz : P.cellsOf e = k) (hpos : 0 < k) (h : CellIs enc P w m (.slc e) v) :
    ∃ (x : Option Addr) (c : Nat) (ls : List (List UInt8)), v = .slice x ls.length c ∧ ls.length ≤ c ∧ c ≤ maxLen ∧ c ≤ m ∧ (x = none → ls.length = 0 ∧ c = 0) ∧ Rdz w x ls.length k (u8s ls.flatten) ∧ ∀ l, l ∈ ls → l.length = k := by
  obtain ⟨x, c, ls, h1, h2, h3, h4, h5, h6, h7⟩ := rows_open n u8s (fun l => l.length = k) hk (by rw [hsz, List.length_replicate]) (by rw [List.length_replicate]; exact hpos) (fun cs h => by
    obtain ⟨l, hl, rfl⟩ := All2.bytes h
    exact ⟨l, rfl, hl⟩) h
  rw [flat_sums, List.length_replicate] at h6
  exact ⟨x, c, ls, h1, h2, h3, h4, h5, h6, h7⟩
end
end Go.Fp

/- THE PLAIN LAW of WindowOnce: what is fresh was not taken. -/
import Derived.Test.YtbjopppgiklfkaaWinInv
import Derived.Maps.OwnOps
import Derived.Maps.Views
import Derived.DeepKeys4
import Derived.Test.YtbjopppgiklfkaaRow0
namespace Go.Proofs.Ytbjopppgiklfkaa
open Go.RowKit Go.Fp Go.WideMaps

def Old (s : WinS) (l : List Int) (b c : Int) : Prop := b < s.boot ∨ (b = s.boot ∧ c ∈ l)

def OnceStep (s : WinS) (l : List Int) (b c r : Int) (s' : WinS) (fv : Bool) : Prop :=
  (fv = false ∧ (r == 0) = false ∧ s' = s) ∨
  (fv = true ∧ r = 0 ∧ s'.size = s.size ∧ s'.boot = b ∧ s.boot ≤ b ∧ ¬ Old s l b c ∧ ∃ l', WInv s' l' ∧ ∀ b' c', Old s l b' c' ∨ (b' = b ∧ c' = c) → Old s' l' b' c')

theorem onceStep {s : WinS} {l : List Int} (h : WInv s l) {b c : Int} (b0 : 0 ≤ b) (b1 : b < 18446744073709551616) (c0 : 0 ≤ c) (c1 : c < 18446744073709551616) :
    ∃ (r : Int) (s' : WinS) (fv : Bool), OnceStep s l b c r s' fv ∧
      (∀ (g : Nat) (w : World), Has w g 54 s.cs → Calls Try.prog 9 #[.pointer (some ⟨g, 0, none⟩), .int .u64 b, .int .u64 c] w fun e w' => e = .returned (.bool fv) ∧ w' = w) ∧
      (∀ (g : Nat) (w : World), Has w g 54 s.cs → Calls Try.prog 10 #[.pointer (some ⟨g, 0, none⟩), .int .u64 b, .int .u64 c] w fun e w' => e = .returned (.int .i64 r) ∧ Has w' g 54 s'.cs ∧ Fr [g] w w') := by
  refine ⟨_, _, _, ?_, fun g w hw => win_Fresh g s b c w hw h.ok b0 c0 c1, fun g w hw => win_Take g s b c w hw h.ok b0 c0 c1⟩
  by_cases hz : b = 0 ∨ c = 0
  · have e1 : takeF s b c = (1, s) := by unfold takeF; rw [if_pos hz]
    rw [e1]
    exact .inl ⟨by unfold freshF; rw [if_pos hz], rfl, rfl⟩
  cases hf : freshF s b c
  · have e1 : takeF s b c = (25, s) := by unfold takeF; rw [if_neg hz, if_pos hf]
    rw [e1]
    exact .inl ⟨rfl, rfl, rfl⟩
  · obtain ⟨e1, e2, e3, e4, e5, e6⟩ := h.take b0 b1 c0 c1
    have hr := h.fresh b0 c0
    rw [hf] at hr
    have ht : rtake s.size s.boot s.top l b c = if s.boot < b then (0, b, c, [c]) else (0, s.boot, if s.top < c then c else s.top, l ++ [c]) := by
      unfold rtake; rw [if_neg hz, if_neg (by rw [← hr]; simp)]
    have hb : ¬ b < s.boot := by
      intro hlt; unfold rfresh at hr; rw [if_pos (.inr (.inr hlt))] at hr; cases hr
    rw [ht] at e1 e2 e5
    refine .inr ⟨rfl, ?_, e4, ?_, by omega, ?_, _, e5, ?_⟩
    · rw [e1]; split <;> rfl
    · rw [e2]; split
      · rfl
      · simp only; omega
    · rintro (ho | ⟨ho, hm⟩)
      · exact hb ho
      · unfold rfresh at hr
        rw [if_neg (by omega)] at hr
        by_cases h3 : s.boot < b ∨ s.top < c
        · have := h.le c hm
          omega
        · rw [if_neg h3] at hr
          split at hr
          · cases hr
          · rw [List.contains_iff_mem.2 hm] at hr; cases hr
    · intro b' c' hcase
      unfold Old at hcase ⊢
      rw [e2]
      split
      · rename_i hlt
        rcases hcase with (ho | ⟨ho, hm⟩) | ⟨h1, h2⟩
        · left; simp only; omega
        · left; simp only; omega
        · right; exact ⟨h1, by simp [h2]⟩
      · rename_i hlt
        rcases hcase with (ho | ⟨ho, hm⟩) | ⟨h1, h2⟩
        · left; simp only; omega
        · right; exact ⟨ho, by simp [hm]⟩
        · right; exact ⟨by simp only; omega, by simp [h2]⟩

theorem opLaw : Maps.Keyed Try.prog 32 := Maps.Keyed.of_law (deep_law_laid Try.laidOut (m := 2) (by omega) (of_decide_eq_true (by kernel_rfl)) (by kernel_rfl) (by kernel_rfl))
theorem opLits {b c : Int} (hb : (Lit.int .u64 b).wf = true) (hc : (Lit.int .u64 c).wf = true) (n : Nat) : Try.prog.keyLits (n + 2) 32 [.int .u64 b, .int .u64 c] = some [.int .u64 b, .int .u64 c] := by
  have hcc : Try.prog.cellsOf 32 = 2 := by kernel_rfl
  have cu : Try.prog.cellsOf 30 = 1 := by kernel_rfl
  have h30 : ∀ x : Int, (Lit.int .u64 x).wf = true → Try.prog.keyLits (n + 1) 30 [.int .u64 x] = some [.int .u64 x] := fun x hx => by
    unfold Program.keyLits; rw [Try.underlying30]; simp [hx]
  unfold Program.keyLits; rw [Try.underlying32]
  simp [hcc, cu, h30 b hb, h30 c hc]
theorem opKey {b c : Int} (hb : (Lit.int .u64 b).wf = true) (hc : (Lit.int .u64 c).wf = true) : keyOf Try.prog 32 (.agg #[.int .u64 b, .int .u64 c]) = some (.string (keyBytes [.int .u64 b, .int .u64 c])) := by
  have hk : Try.prog.keyType 32 = true := by kernel_rfl
  have hcc : Try.prog.cellsOf 32 = 2 := by kernel_rfl
  obtain ⟨n, hn⟩ : ∃ n, Try.prog.types.size + 1 = n + 2 := ⟨Try.prog.types.size - 1, by kernel_rfl⟩
  unfold keyOf
  rw [Try.underlying32]
  simp only [hk, Value.formed, Try.underlying32, hcc, Value.cells, hn, opLits hb hc]
  simp
theorem opKey_inj {b c b' c' : Int} (hb : (Lit.int .u64 b).wf = true) (hc : (Lit.int .u64 c).wf = true) (hb' : (Lit.int .u64 b').wf = true) (hc' : (Lit.int .u64 c').wf = true)
    (h : Lit.string (keyBytes [.int .u64 b, .int .u64 c]) = .string (keyBytes [.int .u64 b', .int .u64 c'])) : b = b' ∧ c = c' := by
  have h1 := keyLits_inj (opLits hb hc 0) (opLits hb' hc' 0) (by simpa using h)
  simpa using h1

/-- What the map says was taken, was. -/
def TakenOk (D : DataW Unit) (s : WinS) (l : List Int) : Prop :=
  ∀ b c, (Lit.int .u64 b).wf = true → (Lit.int .u64 c).wf = true → D.atKey (.string (keyBytes [.int .u64 b, .int .u64 c])) (.lit (.int .i64 0)) ≠ .lit (.int .i64 0) → Old s l b c
theorem takenOk_start (s : WinS) (l : List Int) : TakenOk (.map []) s l := fun _ _ _ _ h => absurd rfl h
theorem TakenOk.zero {D : DataW Unit} {s : WinS} {l : List Int} (h : TakenOk D s l) {b c n : Int} (hb : (Lit.int .u64 b).wf = true) (hc : (Lit.int .u64 c).wf = true) (hn : ¬ Old s l b c)
    (hat : D.atKey (.string (keyBytes [.int .u64 b, .int .u64 c])) (.lit (.int .i64 0)) = .lit (.int .i64 n)) : n = 0 := by
  by_cases e : n = 0
  · exact e
  · exact absurd (h b c hb hc (by rw [hat]; simpa using e)) hn
theorem TakenOk.put {D : DataW Unit} {s s' : WinS} {l l' : List Int} (h : TakenOk D s l) {b c : Int} (hb : (Lit.int .u64 b).wf = true) (hc : (Lit.int .u64 c).wf = true)
    (ho : ∀ b' c', Old s l b' c' ∨ (b' = b ∧ c' = c) → Old s' l' b' c') (v : DataW Unit) : TakenOk (D.put (.string (keyBytes [.int .u64 b, .int .u64 c])) v) s' l' := by
  intro b' c' hb' hc' hne
  by_cases e : Lit.string (keyBytes [.int .u64 b', .int .u64 c']) = .string (keyBytes [.int .u64 b, .int .u64 c])
  · exact ho _ _ (.inr (opKey_inj hb' hc' hb hc e))
  · rw [Maps.atKey_put_other e] at hne
    exact ho _ _ (.inl (h b' c' hb' hc' hne))

theorem map_fr {H : Type} {w w' : World} {S : List Nat} {P : Program} {k : TypeId} {R : Value → Option (DataW H × List MemPlace)} {b n : Nat} {D : DataW H} (h : w.ownsMap P k R b n D) (f : Fr S w w') (hn : b ∉ S) : w'.ownsMap P k R b n D := by
  have hlt := h.lt
  obtain ⟨es, clock, hb, F, hs, hD⟩ := h
  exact ⟨es, clock, (f.block b hlt hn).trans hb, F, hs, hD⟩
theorem map_ne {H : Type} {w : World} {P : Program} {k : TypeId} {R : Value → Option (DataW H × List MemPlace)} {b n : Nat} {D : DataW H} (h : w.ownsMap P k R b n D) {g T : Nat} {cs : Array Value} (hg : Has w g T cs) : b ≠ g := by
  obtain ⟨es, clock, hb, _⟩ := h
  intro e; subst e
  have hg' : w.heap[b]? = some (.cells cs T (0, 0)) := hg
  rw [hb] at hg'; simp at hg'
theorem fr_grownS {w w' : World} {g : Nat} (h : w.grownBy w' (some g)) : Fr [g] w w' := ⟨h.os, h.tape, h.output, h.size, fun k hk hn => h.block k hk (by simpa using hn)⟩
theorem zeroInt (w : World) : (zeroValue 3).run Try.prog w = .ok (.int .i64 0) w := by kernel_rfl
end Go.Proofs.Ytbjopppgiklfkaa

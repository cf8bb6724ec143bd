/- THE PLAIN LAW of windows: the bits are the list. -/
import Derived.Test.YtfcmjlbfoindaaaRef02
namespace Go.Proofs.Ytfcmjlbfoindaaa
open Go.RowKit Go.Fp

theorem wrap_u64 (n : Int) : IntKind.u64.wrap n = n % 18446744073709551616 := by simp [IntKind.wrap, IntKind.bits, IntKind.signed]

theorem or_nat (a b : Nat) (ha : a < 18446744073709551616) (hb : b < 18446744073709551616) : bits .or .u64 (a : Int) (b : Int) = ((a ||| b : Nat) : Int) ∧ (a ||| b) < 18446744073709551616 :=
  ⟨(bits_nat .u64 64 (by decide) wraps_u64 a b ha hb).2, Nat.or_lt_two_pow (n := 64) ha hb⟩

theorem bit1 (k : Nat) : Nat.testBit 1 k = decide (k = 0) := by
  cases k with
  | zero => rfl
  | succ k => simp [Nat.testBit_succ]

theorem bits_up (x : Int) (u k : Nat) (h0 : 0 ≤ x) (h1 : x < 18446744073709551616) (hk : k < 64) :
    0 ≤ bits .or .u64 (IntKind.u64.wrap (x * 2 ^ u)) 1 ∧ bits .or .u64 (IntKind.u64.wrap (x * 2 ^ u)) 1 < 18446744073709551616 ∧
    (bits .or .u64 (IntKind.u64.wrap (x * 2 ^ u)) 1).toNat.testBit k = (decide (k = 0) || (decide (u ≤ k) && x.toNat.testBit (k - u))) := by
  obtain ⟨n, rfl⟩ := Int.eq_ofNat_of_zero_le h0
  have e : IntKind.u64.wrap ((n : Int) * 2 ^ u) = ((n * 2 ^ u % 18446744073709551616 : Nat) : Int) := by rw [wrap_u64]; simp
  have hm : n * 2 ^ u % 18446744073709551616 < 18446744073709551616 := Nat.mod_lt _ (by decide)
  rw [e, show (1 : Int) = ((1 : Nat) : Int) by rfl, (or_nat _ 1 hm (by decide)).1]
  refine ⟨by omega, by have := (or_nat _ 1 hm (by decide)).2; omega, ?_⟩
  rw [Int.toNat_natCast, Int.toNat_natCast, Nat.testBit_or, show (18446744073709551616 : Nat) = 2 ^ 64 by rfl, Nat.testBit_mod_two_pow, Nat.testBit_mul_two_pow]
  cases k with
  | zero => simp
  | succ k =>
    have : Nat.testBit 1 (k + 1) = false := by simp [Nat.testBit_succ]
    rw [this]
    simp [hk]

theorem bits_in (x : Int) (j k : Nat) (h0 : 0 ≤ x) (h1 : x < 18446744073709551616) (_hk : k < 64) (hj : j < 64) :
    0 ≤ bits .or .u64 x (IntKind.u64.wrap (2 ^ min j 64)) ∧ bits .or .u64 x (IntKind.u64.wrap (2 ^ min j 64)) < 18446744073709551616 ∧
    (bits .or .u64 x (IntKind.u64.wrap (2 ^ min j 64))).toNat.testBit k = (x.toNat.testBit k || decide (k = j)) := by
  obtain ⟨n, rfl⟩ := Int.eq_ofNat_of_zero_le h0
  have hp : 2 ^ j < 2 ^ 64 := Nat.pow_lt_pow_right (by decide) hj
  have e : IntKind.u64.wrap (2 ^ min j 64) = ((2 ^ j : Nat) : Int) := by
    rw [wrap_u64, Nat.min_eq_left (Nat.le_of_lt hj)]
    have e1 : ((2 : Int) ^ j) = ((2 ^ j : Nat) : Int) := (Int.natCast_pow 2 j).symm
    rw [e1]
    generalize 2 ^ j = p at hp ⊢
    have hp' : p < 18446744073709551616 := hp
    omega
  rw [e, (or_nat n _ (by omega) hp).1]
  refine ⟨by omega, by have := (or_nat n _ (by omega) hp).2; omega, ?_⟩
  rw [Int.toNat_natCast, Int.toNat_natCast, Nat.testBit_or, Nat.testBit_two_pow]
  congr 1
  simp [eq_comm]

structure WInv (s : WinS) (l : List Int) : Prop where
  ok : s.ok
  no : s.any = false → l = [] ∧ s.boot = 0 ∧ s.top = 0
  le : ∀ x, x ∈ l → x ≤ s.top
  bit : s.any = true → ∀ c, 1 ≤ c → c ≤ s.top → s.top - c < s.size → (s.seen.toNat.testBit (s.top - c).toNat = true ↔ c ∈ l)

theorem WInv.fresh {s : WinS} {l : List Int} (h : WInv s l) {b c : Int} (b0 : 0 ≤ b) (c0 : 0 ≤ c) : freshF s b c = rfresh s.size s.boot s.top l b c := by
  obtain ⟨hok, hno, hle, hbit⟩ := h
  unfold freshF rfresh
  by_cases hz : b = 0 ∨ c = 0
  · rw [if_pos hz, if_pos (by omega)]
  · rw [if_neg hz]
    cases ha : s.any
    · obtain ⟨rfl, h1, h2⟩ := hno ha
      rw [if_pos (by simp), if_neg (by omega), if_pos (by omega)]
    · simp only [Bool.true_eq_false, false_or]
      by_cases h1 : b < s.boot
      · rw [if_neg (by omega), if_pos h1, if_pos (by omega)]
      · by_cases h2 : s.boot < b
        · rw [if_pos h2, if_neg (by omega), if_pos (by omega)]
        · rw [if_neg h2, if_neg h1, if_neg (show ¬ (b = 0 ∨ c = 0 ∨ b < s.boot) by omega)]
          by_cases h3 : s.top < c
          · rw [if_pos h3, if_pos (by omega)]
          · rw [if_neg h3, if_neg (show ¬ (s.boot < b ∨ s.top < c) by omega)]
            by_cases h4 : s.size ≤ s.top - c
            · rw [if_pos h4, if_neg (by omega)]
            · rw [if_neg h4, if_pos (by omega)]
              have hb := hbit ha c (by omega) (by omega) (by omega)
              cases hx : s.seen.toNat.testBit (s.top - c).toNat
              · rw [hx] at hb
                cases hy : l.contains c
                · rfl
                · rw [List.contains_iff_mem] at hy; exact absurd (hb.2 hy) (by simp)
              · rw [hx] at hb
                rw [List.contains_iff_mem.2 (hb.1 rfl)]

theorem WInv.one {size b c : Int} (h : 1 ≤ size ∧ size ≤ 64) (b0 : 0 ≤ b) (b1 : b < 18446744073709551616) (c0 : 0 ≤ c) (c1 : c < 18446744073709551616) : WInv ⟨size, b, c, 1, true⟩ [c] := by
  refine ⟨by simp only [WinS.ok]; omega, fun h => (by cases h), fun x hx => by simp at hx; subst hx; exact Int.le_refl _, fun _ d d1 d2 d3 => ?_⟩
  simp only at d2 d3 ⊢
  rw [show (1 : Int).toNat = 1 by rfl, bit1]
  simp only [List.mem_singleton, decide_eq_true_eq]
  omega

theorem WInv.take {s : WinS} {l : List Int} (h : WInv s l) {b c : Int} (b0 : 0 ≤ b) (b1 : b < 18446744073709551616) (c0 : 0 ≤ c) (c1 : c < 18446744073709551616) :
    (takeF s b c).1 = (rtake s.size s.boot s.top l b c).1 ∧ (takeF s b c).2.boot = (rtake s.size s.boot s.top l b c).2.1 ∧ (takeF s b c).2.top = (rtake s.size s.boot s.top l b c).2.2.1 ∧
      (takeF s b c).2.size = s.size ∧ WInv (takeF s b c).2 (rtake s.size s.boot s.top l b c).2.2.2 ∧ (rtake s.size s.boot s.top l b c).2.2.2.length ≤ l.length + 1 := by
  have hf := h.fresh b0 c0
  by_cases hz : b = 0 ∨ c = 0
  · have e1 : takeF s b c = (1, s) := by unfold takeF; rw [if_pos hz]
    have e2 : rtake s.size s.boot s.top l b c = (1, s.boot, s.top, l) := by unfold rtake; rw [if_pos hz]
    rw [e1, e2]; exact ⟨rfl, rfl, rfl, rfl, h, by simp⟩
  by_cases hfr : freshF s b c = false
  · have e1 : takeF s b c = (25, s) := by unfold takeF; rw [if_neg hz, if_pos hfr]
    have e2 : rtake s.size s.boot s.top l b c = (25, s.boot, s.top, l) := by unfold rtake; rw [if_neg hz, ← hf, if_pos hfr]
    rw [e1, e2]; exact ⟨rfl, rfl, rfl, rfl, h, by simp⟩
  obtain ⟨hok, hno, hle, hbit⟩ := h
  have hok' := hok
  unfold WinS.ok at hok
  by_cases hnew : s.any = false ∨ s.boot < b
  · have e1 : takeF s b c = (0, ⟨s.size, b, c, 1, true⟩) := by unfold takeF; rw [if_neg hz, if_neg hfr, if_pos hnew]
    have hlt : s.boot < b := by
      rcases hnew with h | h
      · have := hno h; omega
      · exact h
    have e2 : rtake s.size s.boot s.top l b c = (0, b, c, [c]) := by unfold rtake; rw [if_neg hz, ← hf, if_neg hfr, if_pos hlt]
    rw [e1, e2]; exact ⟨rfl, rfl, rfl, rfl, WInv.one (by omega) b0 b1 c0 c1, by simp⟩
  have ha : s.any = true := by cases h : s.any; exact absurd (.inl h) hnew; rfl
  have h2 : ¬ s.boot < b := fun h => hnew (.inr h)
  have e2 : rtake s.size s.boot s.top l b c = (0, s.boot, if s.top < c then c else s.top, l ++ [c]) := by unfold rtake; rw [if_neg hz, ← hf, if_neg hfr, if_neg h2]
  have hu := bits_up s.seen (c - s.top).toNat
  have hin := bits_in s.seen (s.top - c).toNat
  have hb : b = s.boot := by
    unfold freshF at hfr
    rw [if_neg hz, ha] at hfr
    simp only [Bool.true_eq_false, false_or, if_neg h2] at hfr
    by_cases h1 : b < s.boot
    · rw [if_pos h1] at hfr; exact absurd rfl hfr
    · omega
  by_cases h3 : s.top < c
  · have e1 : takeF s b c = (0, ⟨s.size, s.boot, c, if c - s.top < 64 then bits .or .u64 (IntKind.u64.wrap (s.seen * 2 ^ (c - s.top).toNat)) 1 else 1, s.any⟩) := by unfold takeF; rw [if_neg hz, if_neg hfr, if_neg hnew, if_pos h3]
    rw [e1, e2, if_pos h3, ha]
    refine ⟨rfl, rfl, rfl, rfl, ⟨?_, fun h => (by cases h), fun x hx => ?_, fun _ d d1 d2 d3 => ?_⟩, by simp⟩
    · simp only [WinS.ok]
      split
      · have := hu 0 (by omega) (by omega) (by omega); omega
      · omega
    · simp only [List.mem_append, List.mem_singleton] at hx ⊢
      rcases hx with hx | rfl
      · have := hle x hx; omega
      · omega
    · simp only at d2 d3 ⊢
      simp only [List.mem_append, List.mem_singleton]
      split
      · rename_i hup
        rw [(hu (c - d).toNat (by omega) (by omega) (by omega)).2.2]
        by_cases e : d = c
        · subst e; simp
        · by_cases e2 : d ≤ s.top
          · have := hbit ha d d1 e2 (by omega)
            rw [show (c - d).toNat - (c - s.top).toNat = (s.top - d).toNat by omega]
            simp only [Bool.or_eq_true, Bool.and_eq_true, decide_eq_true_eq, this]
            constructor
            · rintro (h | h)
              · omega
              · exact .inl h.2
            · rintro (h | h)
              · exact .inr ⟨by omega, h⟩
              · exact absurd h e
          · simp only [Bool.or_eq_true, Bool.and_eq_true, decide_eq_true_eq]
            constructor
            · rintro (h | h) <;> omega
            · rintro (h | h)
              · have := hle d h; omega
              · exact absurd h e
      · rw [show (1 : Int).toNat = 1 by rfl, bit1]
        constructor
        · intro h; simp at h; exact .inr (by omega)
        · rintro (h | h)
          · have := hle d h; omega
          · subst h; simp
  · have e1 : takeF s b c = (0, ⟨s.size, s.boot, s.top, bits .or .u64 s.seen (IntKind.u64.wrap (2 ^ min (s.top - c).toNat 64)), s.any⟩) := by unfold takeF; rw [if_neg hz, if_neg hfr, if_neg hnew, if_neg h3]
    rw [e1, e2, if_neg h3, ha]
    have h4 : s.top - c < s.size := by
      unfold freshF at hfr
      rw [if_neg hz, ha] at hfr
      simp only [Bool.true_eq_false, false_or, if_neg h2, if_neg (show ¬ b < s.boot by omega), if_neg h3] at hfr
      by_cases h4 : s.top - c < s.size
      · exact h4
      · rw [if_neg h4] at hfr; exact absurd rfl hfr
    refine ⟨rfl, rfl, rfl, rfl, ⟨?_, fun h => (by cases h), fun x hx => ?_, fun _ d d1 d2 d3 => ?_⟩, by simp⟩
    · simp only [WinS.ok]
      have := hin 0 (by omega) (by omega) (by omega) (by omega); omega
    · simp only [List.mem_append, List.mem_singleton] at hx ⊢
      rcases hx with hx | rfl
      · have := hle x hx; omega
      · omega
    · simp only at d2 d3 ⊢
      rw [(hin (s.top - d).toNat (by omega) (by omega) (by omega) (by omega)).2.2]
      have := hbit ha d d1 d2 d3
      simp only [List.mem_append, List.mem_singleton, Bool.or_eq_true, decide_eq_true_eq, this]
      constructor
      · rintro (h | h)
        · exact .inl h
        · exact .inr (by omega)
      · rintro (h | h)
        · exact .inl h
        · exact .inr (by omega)
end Go.Proofs.Ytfcmjlbfoindaaa

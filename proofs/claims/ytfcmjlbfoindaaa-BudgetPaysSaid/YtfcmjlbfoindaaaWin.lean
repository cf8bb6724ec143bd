/- THE WALKS of package window. -/
import Derived.Test.YtfcmjlbfoindaaaBase
import Derived.Laws.BitsLemmas
namespace Go.Proofs.Ytfcmjlbfoindaaa
open Go.RowKit Go.Fp

structure WinS where
  (size boot top seen : Int)
  any : Bool
def WinS.cs (s : WinS) : Array Value := #[.int .i64 s.size, .int .u64 s.boot, .int .u64 s.top, .int .u64 s.seen, .bool s.any]
def WinS.ok (s : WinS) : Prop := 1 ≤ s.size ∧ s.size ≤ 64 ∧ 0 ≤ s.boot ∧ s.boot < 18446744073709551616 ∧ 0 ≤ s.top ∧ s.top < 18446744073709551616 ∧ 0 ≤ s.seen ∧ s.seen < 18446744073709551616
def freshF (s : WinS) (b c : Int) : Bool :=
  if b = 0 ∨ c = 0 then false else if s.any = false ∨ s.boot < b then true else if b < s.boot then false else if s.top < c then true
  else if s.top - c < s.size then !s.seen.toNat.testBit (s.top - c).toNat else false

theorem wraps_u64 (n : Int) (h₀ : 0 ≤ n) (h₁ : n < 2 ^ 64) : IntKind.u64.wrap n = n := by simp [IntKind.wrap, IntKind.bits, IntKind.signed]; omega
theorem bit_is (x : Int) (k : Nat) (h0 : 0 ≤ x) (h : x < 18446744073709551616) : (bits .and .u64 (x / 2 ^ k) 1 == 0) = !x.toNat.testBit k := by
  obtain ⟨n, rfl⟩ := Int.eq_ofNat_of_zero_le h0
  have e : ((n : Int) / 2 ^ k) = ((n / 2 ^ k : Nat) : Int) := by simp
  have h2 : n / 2 ^ k ≤ n := Nat.div_le_self _ _
  rw [e, show (1 : Int) = ((1 : Nat) : Int) by rfl]
  rw [(bits_nat .u64 64 (by decide) wraps_u64 _ _ (by omega) (by decide)).1]
  rw [Int.toNat_natCast, Nat.testBit, Nat.shiftRight_eq_div_pow]
  rw [show (1 &&& n / 2 ^ k) = n / 2 ^ k &&& 1 from Nat.and_comm _ _]
  generalize (n / 2 ^ k &&& 1) = z
  cases z with
  | zero => rfl
  | succ z => simp; omega

set_option maxHeartbeats 400000 in
theorem win_Fresh (g : Nat) (s : WinS) (b c : Int) (w : World) (h : Has w g 167 s.cs) (hs : s.ok) (b0 : 0 ≤ b) (c0 : 0 ≤ c) (c1 : c < 18446744073709551616) :
    Calls Try.prog 83 #[.pointer (some ⟨g, 0, none⟩), .int .u64 b, .int .u64 c] w fun e w' => e = .returned (.bool (freshF s b c)) ∧ w' = w := by
  refine calls_cps fun R hR => ?_
  obtain ⟨size, boot, top, seen, any⟩ := s
  simp only [WinS.cs, WinS.ok] at h hs
  obtain ⟨s0, s1, t0, t1, u0, u1, n0, n1⟩ := hs
  have hc := h.cell
  by_cases hb : b = 0
  · subst hb
    go_enter Try.func83, Try.ntmps83
    go_wp2_with fail
    refine hR.out _ _ ⟨ret_bool ?_, rfl⟩
    simp [freshF]
  · have hb1 : (b == 0) = false := by simpa using hb
    by_cases hcc : c = 0
    · subst hcc
      go_enter Try.func83, Try.ntmps83
      go_wp2_with fail
      refine hR.out _ _ ⟨ret_bool ?_, rfl⟩
      simp [freshF]
    · have hc1 : (c == 0) = false := by simpa using hcc
      cases any
      · go_enter Try.func83, Try.ntmps83
        go_wp2_with fail
        refine hR.out _ _ ⟨ret_bool ?_, rfl⟩
        simp [freshF, hb, hcc]
      · go_enter Try.func83, Try.ntmps83
        go_wp2_with fail
        all_goals
          refine hR.out _ _ ⟨ret_bool ?_, rfl⟩
          simp only [freshF, hb, hcc, Bool.true_eq_false, false_or, if_false]
          (repeat' split) <;> first
            | rfl
            | (exfalso; omega)
            | skip
        exact bit_is _ _ n0 n1
/-- What Take answers, and the window then. -/
def takeF (s : WinS) (b c : Int) : Int × WinS :=
  if b = 0 ∨ c = 0 then (1, s) else if freshF s b c = false then (25, s)
  else if s.any = false ∨ s.boot < b then (0, ⟨s.size, b, c, 1, true⟩)
  else if s.top < c then (0, ⟨s.size, s.boot, c, if c - s.top < 64 then bits .or .u64 (IntKind.u64.wrap (s.seen * 2 ^ (c - s.top).toNat)) 1 else 1, s.any⟩)
  else (0, ⟨s.size, s.boot, s.top, bits .or .u64 s.seen (IntKind.u64.wrap (2 ^ min (s.top - c).toNat 64)), s.any⟩)

set_option maxHeartbeats 1600000 in
theorem win_Take (g : Nat) (s : WinS) (b c : Int) (w : World) (h : Has w g 167 s.cs) (hs : s.ok) (b0 : 0 ≤ b) (c0 : 0 ≤ c) (c1 : c < 18446744073709551616) :
    Calls Try.prog 67 #[.pointer (some ⟨g, 0, none⟩), .int .u64 b, .int .u64 c] w fun e w' => e = .returned (.int .i64 (takeF s b c).1) ∧ Has w' g 167 (takeF s b c).2.cs ∧ Fr [g] w w' := by
  have cF := win_Fresh g s b c w h hs b0 c0 c1
  refine calls_cps fun R hR => ?_
  by_cases hb : b = 0
  · subst hb
    simp only [takeF, true_or, if_true] at hR
    go_enter Try.func67, Try.ntmps67
    go_wp2
    exact hR.out _ _ ⟨rfl, h, Fr.refl _ _⟩
  by_cases hcc : c = 0
  · subst hcc
    simp only [takeF, or_true, if_true] at hR
    go_enter Try.func67, Try.ntmps67
    go_wp2
    exact hR.out _ _ ⟨rfl, h, Fr.refl _ _⟩
  simp only [takeF, hb, hcc, or_self, if_false] at hR
  have hb1 : (b == 0) = false := by simpa using hb
  have hc1 : (c == 0) = false := by simpa using hcc
  cases hf : freshF s b c
  · rw [hf] at cF hR
    simp only [if_true] at hR
    go_enter Try.func67, Try.ntmps67
    go_wp2_with (first
    | (refine wp_region_text (id := 17) [0, 0, 0, 1, 0, 0, 0, 1, 0, 0, 0, 0, 0, 0] Any Try.mixed (by kernel_rfl) trivial ?_)
    | (refine wpT_0 (fun K hK => ?_); go_simp; refine hK _ ?_; clear hK K)
    | (refine wpT_1 (fun K hK => ?_); go_simp; refine hK _ ?_; clear hK K)
    | (refine wpT_tail (by rfl) ?_)
    | (refine wpT_2A (fun _ _ => ?_); rw [if_pos (by rfl)])
    | (refine wpT_nil ?_)
    | (go_at_call 83; refine (cF).mono ?_; rintro e w' ⟨rfl, rfl⟩))
    exact hR.out _ _ ⟨rfl, h, Fr.refl _ _⟩
  rw [hf] at cF hR
  clear hf
  obtain ⟨size, boot, top, seen, any⟩ := s
  simp only [WinS.cs, WinS.ok, Bool.true_eq_false, if_false] at h hs hR
  obtain ⟨s0, s1, t0, t1, u0, u1, n0, n1⟩ := hs
  have hc := h.cell
  have hz := h.froz
  cases any
  · simp only [true_or, if_true] at hR
    go_enter Try.func67, Try.ntmps67
    go_wp2_with (first
    | (refine wp_region_text (id := 17) [0, 0, 0, 1, 0, 0, 0, 1, 0, 0, 0, 0, 0, 0] Any Try.mixed (by kernel_rfl) trivial ?_)
    | (refine wpT_0 (fun K hK => ?_); go_simp; refine hK _ ?_; clear hK K)
    | (refine wpT_1 (fun K hK => ?_); go_simp; refine hK _ ?_; clear hK K)
    | (refine wpT_tail (by rfl) ?_)
    | (refine wpT_2A (fun _ _ => ?_); rw [if_pos (by rfl)])
    | (refine wpT_nil ?_)
    | (go_at_call 83; refine (cF).mono ?_; rintro e w' ⟨rfl, rfl⟩))
    exact hR.out _ _ ⟨rfl, Has.eq ((((h.set 4 _).set 1 _).set 2 _).set 3 _) rfl, by repeat (first | exact Fr.refl _ _ | apply Fr.drew | apply Fr.set _ (Or.inl (by simp)))⟩
  by_cases h1 : boot < b
  · simp only [h1, or_true, if_true] at hR
    go_enter Try.func67, Try.ntmps67
    go_wp2_with (first
    | (refine wp_region_text (id := 17) [0, 0, 0, 1, 0, 0, 0, 1, 0, 0, 0, 0, 0, 0] Any Try.mixed (by kernel_rfl) trivial ?_)
    | (refine wpT_0 (fun K hK => ?_); go_simp; refine hK _ ?_; clear hK K)
    | (refine wpT_1 (fun K hK => ?_); go_simp; refine hK _ ?_; clear hK K)
    | (refine wpT_tail (by rfl) ?_)
    | (refine wpT_2A (fun _ _ => ?_); rw [if_pos (by rfl)])
    | (refine wpT_nil ?_)
    | (go_at_call 83; refine (cF).mono ?_; rintro e w' ⟨rfl, rfl⟩))
    exact hR.out _ _ ⟨rfl, Has.eq ((((h.set 4 _).set 1 _).set 2 _).set 3 _) rfl, by repeat (first | exact Fr.refl _ _ | apply Fr.drew | apply Fr.set _ (Or.inl (by simp)))⟩
  by_cases h2 : top < c
  · by_cases h3 : c - top < 64
    · simp only [h1, h2, h3, Bool.true_eq_false, or_self, if_false, if_true] at hR
      go_enter Try.func67, Try.ntmps67
      go_wp2_with (first
    | (refine wp_region_text (id := 17) [0, 0, 0, 1, 0, 0, 0, 1, 0, 0, 0, 0, 0, 0] Any Try.mixed (by kernel_rfl) trivial ?_)
    | (refine wpT_0 (fun K hK => ?_); go_simp; refine hK _ ?_; clear hK K)
    | (refine wpT_1 (fun K hK => ?_); go_simp; refine hK _ ?_; clear hK K)
    | (refine wpT_tail (by rfl) ?_)
    | (refine wpT_2A (fun _ _ => ?_); rw [if_pos (by rfl)])
    | (refine wpT_nil ?_)
    | (go_at_call 83; refine (cF).mono ?_; rintro e w' ⟨rfl, rfl⟩))
      exact hR.out _ _ ⟨rfl, Has.eq ((h.set 3 _).set 2 _) rfl, by repeat (first | exact Fr.refl _ _ | apply Fr.drew | apply Fr.set _ (Or.inl (by simp)))⟩
    · simp only [h1, h2, h3, Bool.true_eq_false, or_self, if_false, if_true] at hR
      go_enter Try.func67, Try.ntmps67
      go_wp2_with (first
    | (refine wp_region_text (id := 17) [0, 0, 0, 1, 0, 0, 0, 1, 0, 0, 0, 0, 0, 0] Any Try.mixed (by kernel_rfl) trivial ?_)
    | (refine wpT_0 (fun K hK => ?_); go_simp; refine hK _ ?_; clear hK K)
    | (refine wpT_1 (fun K hK => ?_); go_simp; refine hK _ ?_; clear hK K)
    | (refine wpT_tail (by rfl) ?_)
    | (refine wpT_2A (fun _ _ => ?_); rw [if_pos (by rfl)])
    | (refine wpT_nil ?_)
    | (go_at_call 83; refine (cF).mono ?_; rintro e w' ⟨rfl, rfl⟩))
      exact hR.out _ _ ⟨rfl, Has.eq ((h.set 3 _).set 2 _) rfl, by repeat (first | exact Fr.refl _ _ | apply Fr.drew | apply Fr.set _ (Or.inl (by simp)))⟩
  simp only [h1, h2, Bool.true_eq_false, or_self, if_false] at hR
  go_enter Try.func67, Try.ntmps67
  go_wp2_with (first
    | (refine wp_region_text (id := 17) [0, 0, 0, 1, 0, 0, 0, 1, 0, 0, 0, 0, 0, 0] Any Try.mixed (by kernel_rfl) trivial ?_)
    | (refine wpT_0 (fun K hK => ?_); go_simp; refine hK _ ?_; clear hK K)
    | (refine wpT_1 (fun K hK => ?_); go_simp; refine hK _ ?_; clear hK K)
    | (refine wpT_tail (by rfl) ?_)
    | (refine wpT_2A (fun _ _ => ?_); rw [if_pos (by rfl)])
    | (refine wpT_nil ?_)
    | (go_at_call 83; refine (cF).mono ?_; rintro e w' ⟨rfl, rfl⟩))
  exact hR.out _ _ ⟨rfl, Has.eq (h.set 3 _).drew (by simp), by repeat (first | exact Fr.refl _ _ | apply Fr.drew | apply Fr.set _ (Or.inl (by simp)))⟩

set_option maxHeartbeats 400000 in
theorem win_New_ok (n : Int) (w : World) (h1 : 1 ≤ n) (h2 : n ≤ 64) :
    Calls Try.prog 57 #[.int .i64 n] w fun e w' => ∃ g, e = .returned (.tuple #[.pointer (some ⟨g, 0, none⟩), .int .i64 0]) ∧ w.heap.size ≤ g ∧
      Has w' g 167 (⟨n, 0, 0, 0, false⟩ : WinS).cs ∧ Fr [] w w' := by
  refine calls_cps fun R hR => ?_
  go_enter Try.func57, Try.ntmps57
  go_wp2
  refine hR.out _ _ ⟨_, rfl, Nat.le_refl _, Has.new _ _ _, (Fr.refl _ _).alloc _⟩

set_option maxHeartbeats 400000 in
theorem win_New_no (n : Int) (w : World) (h : ¬ (1 ≤ n ∧ n ≤ 64)) :
    Calls Try.prog 57 #[.int .i64 n] w fun e w' => e = .returned (.tuple #[.pointer none, .int .i64 1]) ∧ w' = w := by
  refine calls_cps fun R hR => ?_
  by_cases h1 : n < 1
  · go_enter Try.func57, Try.ntmps57
    go_wp2
    exact hR.out _ _ ⟨rfl, rfl⟩
  · have h2 : 64 < n := by omega
    go_enter Try.func57, Try.ntmps57
    go_wp2
    exact hR.out _ _ ⟨rfl, rfl⟩

structure CtrS where
  (boot last : Int)
def CtrS.cs (s : CtrS) : Array Value := #[.int .u64 s.boot, .int .u64 s.last]

set_option maxHeartbeats 400000 in
theorem win_Begin (b : Int) (w : World) (hb : (b == 0) = false) :
    Calls Try.prog 56 #[.int .u64 b] w fun e w' => ∃ g, e = .returned (.tuple #[.pointer (some ⟨g, 0, none⟩), .int .i64 0]) ∧ w.heap.size ≤ g ∧
      Has w' g 165 (⟨b, 0⟩ : CtrS).cs ∧ Fr [] w w' := by
  refine calls_cps fun R hR => ?_
  go_enter Try.func56, Try.ntmps56
  go_wp2
  refine hR.out _ _ ⟨_, rfl, Nat.le_refl _, Has.new _ _ _, (Fr.refl _ _).alloc _⟩

set_option maxHeartbeats 400000 in
theorem win_Begin_no (w : World) :
    Calls Try.prog 56 #[.int .u64 0] w fun e w' => e = .returned (.tuple #[.pointer none, .int .i64 1]) ∧ w' = w := by
  refine calls_cps fun R hR => ?_
  go_enter Try.func56, Try.ntmps56
  go_wp2
  exact hR.out _ _ ⟨rfl, rfl⟩

end Go.Proofs.Ytfcmjlbfoindaaa

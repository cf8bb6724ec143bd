/- What is said of the program itself: its regions' orders are open. -/
import Derived.Test.YtemhcflaldeakaaRows
import Derived.Test.YtemhcflaldeakaaFpKit
import Derived.Test.YtemhcflaldeakaaFpText
import Derived.WalkKit
import Derived.WalkSpells
import Derived.WalkLawsBesides
import Derived.Laws.BitsLemmas
import Derived.Test.YtemhcflaldeakaaFpRow
import Derived.Test.YtemhcflaldeakaaSl
namespace Go.Proofs.Ytemhcflaldeakaa
open Go.RowKit Go.Fp
theorem Try.mixed : Try.prog.follows .mixedOrders = true := by kernel_rfl
end Go.Proofs.Ytemhcflaldeakaa
/- THE WALKS of package window. -/
namespace Go.Proofs.Ytemhcflaldeakaa
open Go.RowKit Go.Fp

structure WinS where
  (size boot top seen : Int)
  any : Bool
def WinS.cs (s : WinS) : Array Value := #[.int .i64 s.size, .int .u64 s.boot, .int .u64 s.top, .int .u64 s.seen, .bool s.any]
def WinS.ok (s : WinS) : Prop := 1 ≤ s.size ∧ s.size ≤ 64 ∧ 0 ≤ s.boot ∧ s.boot < 18446744073709551616 ∧ 0 ≤ s.top ∧ s.top < 18446744073709551616 ∧ 0 ≤ s.seen ∧ s.seen < 18446744073709551616
def freshF (s : WinS) (b c : Int) : Bool :=
  if b = 0 ∨ c = 0 then false else if s.any = false ∨ s.boot < b then true else if b < s.boot then false else if s.top < c then true
  else if s.top - c < s.size then !s.seen.toNat.testBit (s.top - c).toNat else false

theorem wraps_u64 (n : Int) (h₀ : 0 ≤ n) (h₁ : n < 2 ^ 64) : IntKind.u64.wrap n = n := by simp [IntKind.wrap, IntKind.bits, IntKind.signed]; omega
theorem bit_is (x : Int) (k : Nat) (h0 : 0 ≤ x) (h : x < 18446744073709551616) : (bits .and .u64 (x / 2 ^ k) 1 == 0) = !x.toNat.testBit k := by
  obtain ⟨n, rfl⟩ := Int.eq_ofNat_of_zero_le h0
  have e : ((n : Int) / 2 ^ k) = ((n / 2 ^ k : Nat) : Int) := by simp
  have h2 : n / 2 ^ k ≤ n := Nat.div_le_self _ _
  rw [e, show (1 : Int) = ((1 : Nat) : Int) by rfl]
  rw [(bits_nat .u64 64 (by decide) wraps_u64 _ _ (by omega) (by decide)).1]
  rw [Int.toNat_natCast, Nat.testBit, Nat.shiftRight_eq_div_pow]
  rw [show (1 &&& n / 2 ^ k) = n / 2 ^ k &&& 1 from Nat.and_comm _ _]
  generalize (n / 2 ^ k &&& 1) = z
  cases z with
  | zero => rfl
  | succ z => simp; omega

set_option maxHeartbeats 400000 in
theorem win_Fresh (g : Nat) (s : WinS) (b c : Int) (w : World) (h : Has w g 97 s.cs) (hs : s.ok) (b0 : 0 ≤ b) (c0 : 0 ≤ c) (c1 : c < 18446744073709551616) :
    Calls Try.prog 47 #[.pointer (some ⟨g, 0, none⟩), .int .u64 b, .int .u64 c] w fun e w' => e = .returned (.bool (freshF s b c)) ∧ w' = w := by
  refine calls_cps fun R hR => ?_
  obtain ⟨size, boot, top, seen, any⟩ := s
  simp only [WinS.cs, WinS.ok] at h hs
  obtain ⟨s0, s1, t0, t1, u0, u1, n0, n1⟩ := hs
  have hc := h.cell
  by_cases hb : b = 0
  · subst hb
    go_enter Try.func47, Try.ntmps47
    go_wp2_with fail
    refine hR.out _ _ ⟨ret_bool ?_, rfl⟩
    simp [freshF]
  · have hb1 : (b == 0) = false := by simpa using hb
    by_cases hcc : c = 0
    · subst hcc
      go_enter Try.func47, Try.ntmps47
      go_wp2_with fail
      refine hR.out _ _ ⟨ret_bool ?_, rfl⟩
      simp [freshF]
    · have hc1 : (c == 0) = false := by simpa using hcc
      cases any
      · go_enter Try.func47, Try.ntmps47
        go_wp2_with fail
        refine hR.out _ _ ⟨ret_bool ?_, rfl⟩
        simp [freshF, hb, hcc]
      · go_enter Try.func47, Try.ntmps47
        go_wp2_with fail
        all_goals
          refine hR.out _ _ ⟨ret_bool ?_, rfl⟩
          simp only [freshF, hb, hcc, Bool.true_eq_false, false_or, if_false]
          (repeat' split) <;> first
            | rfl
            | (exfalso; omega)
            | skip
        exact bit_is _ _ n0 n1
/-- What Take answers, and the window then. -/
def takeF (s : WinS) (b c : Int) : Int × WinS :=
  if b = 0 ∨ c = 0 then (1, s) else if freshF s b c = false then (25, s)
  else if s.any = false ∨ s.boot < b then (0, ⟨s.size, b, c, 1, true⟩)
  else if s.top < c then (0, ⟨s.size, s.boot, c, if c - s.top < 64 then bits .or .u64 (IntKind.u64.wrap (s.seen * 2 ^ (c - s.top).toNat)) 1 else 1, s.any⟩)
  else (0, ⟨s.size, s.boot, s.top, bits .or .u64 s.seen (IntKind.u64.wrap (2 ^ min (s.top - c).toNat 64)), s.any⟩)

set_option maxHeartbeats 1600000 in
theorem win_Take (g : Nat) (s : WinS) (b c : Int) (w : World) (h : Has w g 97 s.cs) (hs : s.ok) (b0 : 0 ≤ b) (c0 : 0 ≤ c) (c1 : c < 18446744073709551616) :
    Calls Try.prog 34 #[.pointer (some ⟨g, 0, none⟩), .int .u64 b, .int .u64 c] w fun e w' => e = .returned (.int .i64 (takeF s b c).1) ∧ Has w' g 97 (takeF s b c).2.cs ∧ Fr [g] w w' := by
  have cF := win_Fresh g s b c w h hs b0 c0 c1
  refine calls_cps fun R hR => ?_
  by_cases hb : b = 0
  · subst hb
    simp only [takeF, true_or, if_true] at hR
    go_enter Try.func34, Try.ntmps34
    go_wp2
    exact hR.out _ _ ⟨rfl, h, Fr.refl _ _⟩
  by_cases hcc : c = 0
  · subst hcc
    simp only [takeF, or_true, if_true] at hR
    go_enter Try.func34, Try.ntmps34
    go_wp2
    exact hR.out _ _ ⟨rfl, h, Fr.refl _ _⟩
  simp only [takeF, hb, hcc, or_self, if_false] at hR
  have hb1 : (b == 0) = false := by simpa using hb
  have hc1 : (c == 0) = false := by simpa using hcc
  cases hf : freshF s b c
  · rw [hf] at cF hR
    simp only [if_true] at hR
    go_enter Try.func34, Try.ntmps34
    go_wp2_with (first
    | (refine wp_region_text (id := 17) [0, 0, 0, 1, 0, 0, 0, 1, 0, 0, 0, 0, 0, 0] Any Try.mixed (by kernel_rfl) trivial ?_)
    | (refine wpT_0 (fun K hK => ?_); go_simp; refine hK _ ?_; clear hK K)
    | (refine wpT_1 (fun K hK => ?_); go_simp; refine hK _ ?_; clear hK K)
    | (refine wpT_tail (by rfl) ?_)
    | (refine wpT_2A (fun _ _ => ?_); rw [if_pos (by rfl)])
    | (refine wpT_nil ?_)
    | (go_at_call 47; refine (cF).mono ?_; rintro e w' ⟨rfl, rfl⟩))
    exact hR.out _ _ ⟨rfl, h, Fr.refl _ _⟩
  rw [hf] at cF hR
  clear hf
  obtain ⟨size, boot, top, seen, any⟩ := s
  simp only [WinS.cs, WinS.ok, Bool.true_eq_false, if_false] at h hs hR
  obtain ⟨s0, s1, t0, t1, u0, u1, n0, n1⟩ := hs
  have hc := h.cell
  have hz := h.froz
  cases any
  · simp only [true_or, if_true] at hR
    go_enter Try.func34, Try.ntmps34
    go_wp2_with (first
    | (refine wp_region_text (id := 17) [0, 0, 0, 1, 0, 0, 0, 1, 0, 0, 0, 0, 0, 0] Any Try.mixed (by kernel_rfl) trivial ?_)
    | (refine wpT_0 (fun K hK => ?_); go_simp; refine hK _ ?_; clear hK K)
    | (refine wpT_1 (fun K hK => ?_); go_simp; refine hK _ ?_; clear hK K)
    | (refine wpT_tail (by rfl) ?_)
    | (refine wpT_2A (fun _ _ => ?_); rw [if_pos (by rfl)])
    | (refine wpT_nil ?_)
    | (go_at_call 47; refine (cF).mono ?_; rintro e w' ⟨rfl, rfl⟩))
    exact hR.out _ _ ⟨rfl, Has.eq ((((h.set 4 _).set 1 _).set 2 _).set 3 _) rfl, by repeat (first | exact Fr.refl _ _ | apply Fr.drew | apply Fr.set _ (Or.inl (by simp)))⟩
  by_cases h1 : boot < b
  · simp only [h1, or_true, if_true] at hR
    go_enter Try.func34, Try.ntmps34
    go_wp2_with (first
    | (refine wp_region_text (id := 17) [0, 0, 0, 1, 0, 0, 0, 1, 0, 0, 0, 0, 0, 0] Any Try.mixed (by kernel_rfl) trivial ?_)
    | (refine wpT_0 (fun K hK => ?_); go_simp; refine hK _ ?_; clear hK K)
    | (refine wpT_1 (fun K hK => ?_); go_simp; refine hK _ ?_; clear hK K)
    | (refine wpT_tail (by rfl) ?_)
    | (refine wpT_2A (fun _ _ => ?_); rw [if_pos (by rfl)])
    | (refine wpT_nil ?_)
    | (go_at_call 47; refine (cF).mono ?_; rintro e w' ⟨rfl, rfl⟩))
    exact hR.out _ _ ⟨rfl, Has.eq ((((h.set 4 _).set 1 _).set 2 _).set 3 _) rfl, by repeat (first | exact Fr.refl _ _ | apply Fr.drew | apply Fr.set _ (Or.inl (by simp)))⟩
  by_cases h2 : top < c
  · by_cases h3 : c - top < 64
    · simp only [h1, h2, h3, Bool.true_eq_false, or_self, if_false, if_true] at hR
      go_enter Try.func34, Try.ntmps34
      go_wp2_with (first
    | (refine wp_region_text (id := 17) [0, 0, 0, 1, 0, 0, 0, 1, 0, 0, 0, 0, 0, 0] Any Try.mixed (by kernel_rfl) trivial ?_)
    | (refine wpT_0 (fun K hK => ?_); go_simp; refine hK _ ?_; clear hK K)
    | (refine wpT_1 (fun K hK => ?_); go_simp; refine hK _ ?_; clear hK K)
    | (refine wpT_tail (by rfl) ?_)
    | (refine wpT_2A (fun _ _ => ?_); rw [if_pos (by rfl)])
    | (refine wpT_nil ?_)
    | (go_at_call 47; refine (cF).mono ?_; rintro e w' ⟨rfl, rfl⟩))
      exact hR.out _ _ ⟨rfl, Has.eq ((h.set 3 _).set 2 _) rfl, by repeat (first | exact Fr.refl _ _ | apply Fr.drew | apply Fr.set _ (Or.inl (by simp)))⟩
    · simp only [h1, h2, h3, Bool.true_eq_false, or_self, if_false, if_true] at hR
      go_enter Try.func34, Try.ntmps34
      go_wp2_with (first
    | (refine wp_region_text (id := 17) [0, 0, 0, 1, 0, 0, 0, 1, 0, 0, 0, 0, 0, 0] Any Try.mixed (by kernel_rfl) trivial ?_)
    | (refine wpT_0 (fun K hK => ?_); go_simp; refine hK _ ?_; clear hK K)
    | (refine wpT_1 (fun K hK => ?_); go_simp; refine hK _ ?_; clear hK K)
    | (refine wpT_tail (by rfl) ?_)
    | (refine wpT_2A (fun _ _ => ?_); rw [if_pos (by rfl)])
    | (refine wpT_nil ?_)
    | (go_at_call 47; refine (cF).mono ?_; rintro e w' ⟨rfl, rfl⟩))
      exact hR.out _ _ ⟨rfl, Has.eq ((h.set 3 _).set 2 _) rfl, by repeat (first | exact Fr.refl _ _ | apply Fr.drew | apply Fr.set _ (Or.inl (by simp)))⟩
  simp only [h1, h2, Bool.true_eq_false, or_self, if_false] at hR
  go_enter Try.func34, Try.ntmps34
  go_wp2_with (first
    | (refine wp_region_text (id := 17) [0, 0, 0, 1, 0, 0, 0, 1, 0, 0, 0, 0, 0, 0] Any Try.mixed (by kernel_rfl) trivial ?_)
    | (refine wpT_0 (fun K hK => ?_); go_simp; refine hK _ ?_; clear hK K)
    | (refine wpT_1 (fun K hK => ?_); go_simp; refine hK _ ?_; clear hK K)
    | (refine wpT_tail (by rfl) ?_)
    | (refine wpT_2A (fun _ _ => ?_); rw [if_pos (by rfl)])
    | (refine wpT_nil ?_)
    | (go_at_call 47; refine (cF).mono ?_; rintro e w' ⟨rfl, rfl⟩))
  exact hR.out _ _ ⟨rfl, Has.eq (h.set 3 _).drew (by simp), by repeat (first | exact Fr.refl _ _ | apply Fr.drew | apply Fr.set _ (Or.inl (by simp)))⟩

set_option maxHeartbeats 400000 in
theorem win_New_ok (n : Int) (w : World) (h1 : 1 ≤ n) (h2 : n ≤ 64) :
    Calls Try.prog 24 #[.int .i64 n] w fun e w' => ∃ g, e = .returned (.tuple #[.pointer (some ⟨g, 0, none⟩), .int .i64 0]) ∧ w.heap.size ≤ g ∧
      Has w' g 97 (⟨n, 0, 0, 0, false⟩ : WinS).cs ∧ Fr [] w w' := by
  refine calls_cps fun R hR => ?_
  go_enter Try.func24, Try.ntmps24
  go_wp2
  refine hR.out _ _ ⟨_, rfl, Nat.le_refl _, Has.new _ _ _, (Fr.refl _ _).alloc _⟩

set_option maxHeartbeats 400000 in
theorem win_New_no (n : Int) (w : World) (h : ¬ (1 ≤ n ∧ n ≤ 64)) :
    Calls Try.prog 24 #[.int .i64 n] w fun e w' => e = .returned (.tuple #[.pointer none, .int .i64 1]) ∧ w' = w := by
  refine calls_cps fun R hR => ?_
  by_cases h1 : n < 1
  · go_enter Try.func24, Try.ntmps24
    go_wp2
    exact hR.out _ _ ⟨rfl, rfl⟩
  · have h2 : 64 < n := by omega
    go_enter Try.func24, Try.ntmps24
    go_wp2
    exact hR.out _ _ ⟨rfl, rfl⟩

structure CtrS where
  (boot last : Int)
def CtrS.cs (s : CtrS) : Array Value := #[.int .u64 s.boot, .int .u64 s.last]

set_option maxHeartbeats 400000 in
theorem win_Begin (b : Int) (w : World) (hb : (b == 0) = false) :
    Calls Try.prog 23 #[.int .u64 b] w fun e w' => ∃ g, e = .returned (.tuple #[.pointer (some ⟨g, 0, none⟩), .int .i64 0]) ∧ w.heap.size ≤ g ∧
      Has w' g 95 (⟨b, 0⟩ : CtrS).cs ∧ Fr [] w w' := by
  refine calls_cps fun R hR => ?_
  go_enter Try.func23, Try.ntmps23
  go_wp2
  refine hR.out _ _ ⟨_, rfl, Nat.le_refl _, Has.new _ _ _, (Fr.refl _ _).alloc _⟩

set_option maxHeartbeats 400000 in
theorem win_Begin_no (w : World) :
    Calls Try.prog 23 #[.int .u64 0] w fun e w' => e = .returned (.tuple #[.pointer none, .int .i64 1]) ∧ w' = w := by
  refine calls_cps fun R hR => ?_
  go_enter Try.func23, Try.ntmps23
  go_wp2
  exact hR.out _ _ ⟨rfl, rfl⟩

set_option maxHeartbeats 400000 in
theorem win_Next (g : Nat) (s : CtrS) (w : World) (h : Has w g 95 s.cs) (h0 : 0 ≤ s.last) (h1 : s.last < 18446744073709551615) :
    Calls Try.prog 37 #[.pointer (some ⟨g, 0, none⟩)] w fun e w' => e = .returned (.tuple #[.int .u64 s.boot, .int .u64 (s.last + 1), .int .i64 0]) ∧ Has w' g 95 (⟨s.boot, s.last + 1⟩ : CtrS).cs ∧ Fr [g] w w' := by
  refine calls_cps fun R hR => ?_
  obtain ⟨boot, last⟩ := s
  simp only [CtrS.cs] at h h0 h1
  have hc := h.cell
  have hz := h.froz
  have hl : (last == 18446744073709551615) = false := by simp; omega
  go_enter Try.func37, Try.ntmps37
  go_wp2_with (first
    | (refine wp_region_text (id := 6) [0, 0, 0, 1, 0, 0, 0, 1, 0] Any Try.mixed (by kernel_rfl) trivial ?_)
    | (refine wpT_0 (fun K hK => ?_); go_simp; refine hK _ ?_; clear hK K)
    | (refine wpT_1 (fun K hK => ?_); go_simp; refine hK _ ?_; clear hK K)
    | (refine wpT_tail (by rfl) ?_)
    | (refine wpT_2A (fun _ _ => ?_); rw [if_pos (by rfl)])
    | (refine wpT_nil ?_))
  refine bodyPost_ret ?_ rfl (hR.out _ _ ⟨rfl, Has.eq (h.set 1 _).drew rfl, by repeat (first | exact Fr.refl _ _ | apply Fr.drew | apply Fr.set _ (Or.inl (by simp)))⟩)
  simp [results, Try.results37, go_sem]

set_option maxHeartbeats 400000 in
theorem win_Next_no (g : Nat) (s : CtrS) (w : World) (h : Has w g 95 s.cs) (h1 : s.last = 18446744073709551615) :
    Calls Try.prog 37 #[.pointer (some ⟨g, 0, none⟩)] w fun e w' => e = .returned (.tuple #[.int .u64 0, .int .u64 0, .int .i64 21]) ∧ w' = w := by
  refine calls_cps fun R hR => ?_
  obtain ⟨boot, last⟩ := s
  simp only [CtrS.cs] at h h1
  subst h1
  have hc := h.cell
  go_enter Try.func37, Try.ntmps37
  go_wp2_with (first
    | (refine wp_region_text (id := 6) [0, 0, 0, 1, 0, 0, 0, 1, 0] Any Try.mixed (by kernel_rfl) trivial ?_)
    | (refine wpT_0 (fun K hK => ?_); go_simp; refine hK _ ?_; clear hK K)
    | (refine wpT_1 (fun K hK => ?_); go_simp; refine hK _ ?_; clear hK K)
    | (refine wpT_tail (by rfl) ?_)
    | (refine wpT_2A (fun _ _ => ?_); rw [if_pos (by rfl)])
    | (refine wpT_nil ?_))
  refine bodyPost_ret ?_ rfl (hR.out _ _ ⟨rfl, rfl⟩)
  simp [results, Try.results37, go_sem]

end Go.Proofs.Ytemhcflaldeakaa
/- THE WALKS of package toll. -/
namespace Go.Proofs.Ytemhcflaldeakaa
open Go.RowKit Go.Fp

structure RatesS where
  (f ft b bt : Int)
def RatesS.cs (r : RatesS) : Array Value := #[.int .i64 r.f, .int .i64 r.ft, .int .i64 r.b, .int .i64 r.bt]
def RatesS.v (r : RatesS) : Value := .agg r.cs
def RatesS.ok (r : RatesS) : Prop := 1 ≤ r.f ∧ r.f ≤ 1073741824 ∧ 0 ≤ r.ft ∧ r.ft ≤ 1073741824 ∧ 1 ≤ r.b ∧ r.b ≤ 1073741824 ∧ 0 ≤ r.bt ∧ r.bt ≤ 1073741824
structure TollS where
  r : RatesS
  (fr bl ow : Int)
def TollS.cs (s : TollS) : Array Value := #[.int .i64 s.r.f, .int .i64 s.r.ft, .int .i64 s.r.b, .int .i64 s.r.bt, .int .i64 s.fr, .int .i64 s.bl, .int .i64 s.ow]
def TollS.ok (s : TollS) : Prop := s.r.ok ∧ 0 ≤ s.fr ∧ s.fr ≤ s.r.f ∧ 0 ≤ s.bl ∧ 0 ≤ s.ow ∧ s.bl ≤ s.r.b ∧ s.ow ≤ 1152921504606846976

def fillF (left each most ticks : Int) : Int :=
  if 0 < each then (if (most - left + each - 1) / each ≤ ticks then most else left + each * ticks) else left

theorem fill_mul {a b c d : Int} (hb : 0 < b) (h : d < (c - a + b - 1) / b) : b * d ≤ c - a - 1 := by
  have h1 : (d + 1) * b ≤ c - a + b - 1 := (Int.le_ediv_iff_mul_le hb).1 (by omega)
  have h2 : (d + 1) * b = b * d + b := by rw [Int.add_mul, Int.mul_comm d b]; omega
  omega

theorem fill_in {a b c d : Int} (h1 : 0 ≤ a) (h2 : a ≤ c) (h6 : 0 ≤ d) : 0 ≤ fillF a b c d ∧ fillF a b c d ≤ c ∧ a ≤ fillF a b c d := by
  unfold fillF
  split
  · rename_i hb
    split
    · omega
    · rename_i h
      have := fill_mul hb (Int.not_le.1 h)
      have := Int.mul_nonneg (Int.le_of_lt hb) h6
      omega
  · omega

set_option maxHeartbeats 400000 in
theorem toll_fill (a b c d : Int) (w : World) (h1 : 0 ≤ a) (h2 : a ≤ c) (h3 : c ≤ 1073741824) (h4 : 0 ≤ b) (h5 : b ≤ 1073741824) (h6 : 0 ≤ d) :
    Calls Try.prog 39 #[.int .i64 a, .int .i64 b, .int .i64 c, .int .i64 d] w fun e w' => e = .returned (.int .i64 (fillF a b c d)) ∧ w' = w := by
  go_enter Try.func39, Try.ntmps39
  go_wp2
  · go_ret
    refine ⟨ret_int ?_, rfl⟩
    unfold fillF
    rw [if_pos ‹_›, if_pos ‹_›]
  · have hb : 0 < b := ‹_›
    have h : d < (c - a + b - 1) / b := ‹_›
    have h7 := fill_mul hb h
    have h8 : 0 ≤ b * d := Int.mul_nonneg (by omega) h6
    go_ret
    refine ⟨ret_int ?_, rfl⟩
    unfold fillF
    rw [if_pos hb, if_neg (by omega)]
    unfold wrap64
    omega
  · have hb : b = 0 := by have : b ≤ 0 := ‹_›; omega
    subst hb
    go_ret
    refine ⟨ret_int ?_, rfl⟩
    unfold fillF
    rw [if_neg (by omega)]
    simp only [Int.zero_mul, wrap64]
    omega

set_option maxHeartbeats 400000 in
theorem toll_Right (r : RatesS) (w : World) :
    Calls Try.prog 36 #[r.v] w fun e w' => ∃ b, e = .returned (.bool b) ∧ (b = true ↔ r.ok) ∧ Fr [] w w' := by
  refine calls_cps fun R hR => ?_
  obtain ⟨f, ft, b, bt⟩ := r
  simp only [RatesS.v, RatesS.cs, RatesS.ok] at hR ⊢
  have i0 : ∀ w, (Instr.index 113 (.agg #[.int .i64 f, .int .i64 ft, .int .i64 b, .int .i64 bt]) (.int .i64 0)).run Try.prog w = .ok (.int .i64 f) w := fun _ => by kernel_rfl
  have i1 : ∀ w, (Instr.index 113 (.agg #[.int .i64 f, .int .i64 ft, .int .i64 b, .int .i64 bt]) (.int .i64 1)).run Try.prog w = .ok (.int .i64 ft) w := fun _ => by kernel_rfl
  have i2 : ∀ w, (Instr.index 113 (.agg #[.int .i64 f, .int .i64 ft, .int .i64 b, .int .i64 bt]) (.int .i64 2)).run Try.prog w = .ok (.int .i64 b) w := fun _ => by kernel_rfl
  have i3 : ∀ w, (Instr.index 113 (.agg #[.int .i64 f, .int .i64 ft, .int .i64 b, .int .i64 bt]) (.int .i64 3)).run Try.prog w = .ok (.int .i64 bt) w := fun _ => by kernel_rfl
  go_enter Try.func36, Try.ntmps36
  go_wp2
  refine wp_loop_rounds 5 ?_
  repeat any_goals (rw [rounds_succ]; go_wp2)
  all_goals
    refine hR.out _ _ ⟨_, rfl, ?_, by repeat (first | exact Fr.refl _ _ | apply Fr.drew | apply Fr.alloc)⟩
    simp only [Bool.false_eq_true, false_iff, decide_eq_true_eq]
    omega

/-- What is left behind so many ticks. -/
def tickF (s : TollS) (n : Int) : Int × TollS := if n < 0 then (1, s) else (0, { s with fr := fillF s.fr s.r.ft s.r.f n, bl := fillF s.bl s.r.bt s.r.b n })
def frameF (s : TollS) (n : Int) : Int × TollS := if n < 0 then (1, s) else if s.fr < 1 then (26, s) else if s.bl < n then (26, s) else (0, { s with fr := s.fr - 1, bl := s.bl - n })
def holdF (s : TollS) (n : Int) : Int × TollS := if n < 0 then (1, s) else if s.bl < n then (26, s) else (0, { s with bl := s.bl - n, ow := s.ow + n })
def settleF (s : TollS) (n : Int) : Int × TollS := if n < 0 then (1, s) else if s.ow < n then (1, s) else (0, { s with bl := min s.r.b (s.bl + s.ow - n), ow := 0 })

theorem TollS.ok.fr1 {s : TollS} (h : s.ok) : s.fr ≤ 1073741824 := by unfold TollS.ok RatesS.ok at h; omega

set_option maxHeartbeats 400000 in
theorem toll_Tick (g : Nat) (s : TollS) (n : Int) (w : World) (hs : s.ok) (h : Has w g 99 s.cs) :
    Calls Try.prog 26 #[.pointer (some ⟨g, 0, none⟩), .int .i64 n] w fun e w' => e = .returned (.int .i64 (tickF s n).1) ∧
      Has w' g 99 (tickF s n).2.cs ∧ Fr [g] w w' := by
  refine calls_cps fun R hR => ?_
  obtain ⟨⟨f, ft, b, bt⟩, fr, bl, ow⟩ := s
  simp only [TollS.ok, RatesS.ok, TollS.cs] at hs h
  obtain ⟨⟨h1, h2, h3, h4, h5, h6, h7, h8⟩, h9, h10, h11, h12, h13, h14⟩ := hs
  have hc := h.cell
  have hz := h.froz
  by_cases hn : n < 0
  · rw [tickF, if_pos hn] at hR
    go_enter Try.func26, Try.ntmps26
    go_wp2
    exact hR.out _ _ ⟨rfl, h, Fr.refl _ _⟩
  · rw [tickF, if_neg hn] at hR
    go_enter Try.func26, Try.ntmps26
    go_wp2_with (first
    | (refine wp_region_text (id := 5) [0, 0, 0, 0, 1, 0, 0, 0, 0, 1, 0, 0, 0, 0, 1, 0] Any Try.mixed (by kernel_rfl) trivial ?_)
    | (refine wp_region_text (id := 6) [0, 0, 0, 0, 1, 0, 0, 0, 0, 1, 0, 0, 0, 0, 1, 0] Any Try.mixed (by kernel_rfl) trivial ?_)
    | (refine wpT_0 (fun K hK => ?_); go_simp; refine hK _ ?_; clear hK K)
    | (refine wpT_1 (fun K hK => ?_); go_simp; refine hK _ ?_; clear hK K)
    | (refine wpT_tail (by rfl) ?_)
    | (refine wpT_2A (fun _ _ => ?_); rw [if_pos (by rfl)])
    | (refine wpT_nil ?_)
    | (go_at_call 39; refine (toll_fill _ _ _ _ _ (by omega) (by omega) (by omega) (by omega) (by omega) (by omega)).mono ?_; rintro e w' ⟨rfl, rfl⟩))
    exact hR.out _ _ ⟨rfl, ((h.set 4 _).set 5 _).drew.drew, by repeat (first | exact Fr.refl _ _ | apply Fr.drew | apply Fr.set _ (Or.inl (by simp)))⟩

set_option maxHeartbeats 400000 in
theorem toll_Frame (g : Nat) (s : TollS) (n : Int) (w : World) (hs : s.ok) (h : Has w g 99 s.cs) :
    Calls Try.prog 32 #[.pointer (some ⟨g, 0, none⟩), .int .i64 n] w fun e w' => e = .returned (.int .i64 (frameF s n).1) ∧
      Has w' g 99 (frameF s n).2.cs ∧ Fr [g] w w' := by
  refine calls_cps fun R hR => ?_
  obtain ⟨⟨f, ft, b, bt⟩, fr, bl, ow⟩ := s
  simp only [TollS.ok, RatesS.ok, TollS.cs] at hs h
  obtain ⟨⟨h1, h2, h3, h4, h5, h6, h7, h8⟩, h9, h10, h11, h12, h13, h14⟩ := hs
  have hc := h.cell
  have hz := h.froz
  go_enter Try.func32, Try.ntmps32
  go_wp2_with fail
  all_goals
    refine hR.out _ _ ?_
    simp only [frameF]
    (repeat' split) <;> first
      | (exfalso; omega)
      | exact ⟨rfl, h, Fr.refl _ _⟩
      | exact ⟨rfl, ((h.set 4 _).set 5 _), by repeat (first | exact Fr.refl _ _ | apply Fr.drew | apply Fr.set _ (Or.inl (by simp)))⟩

set_option maxHeartbeats 400000 in
theorem toll_New_ok (r : RatesS) (w : World) (hr : r.ok) :
    Calls Try.prog 25 #[r.v] w fun e w' => ∃ g, e = .returned (.tuple #[.pointer (some ⟨g, 0, none⟩), .int .i64 0]) ∧ w.heap.size ≤ g ∧
      Has w' g 99 (⟨r, r.f, r.b, 0⟩ : TollS).cs ∧ Fr [] w w' := by
  refine calls_cps fun R hR => ?_
  obtain ⟨f, ft, b, bt⟩ := r
  have c1 := toll_Right ⟨f, ft, b, bt⟩
  simp only [RatesS.v, RatesS.cs] at c1 ⊢
  go_enter Try.func25, Try.ntmps25
  go_wp2_with (first
    | (go_at_call 36; refine (c1 _).mono ?_; rintro e w1 ⟨v, rfl, hv, hf⟩; obtain rfl : v = true := hv.2 hr; clear hv hr
       have hb := hf.has0 (Has.new w _ _); have hc := hb.cell))
  refine hR.out _ _ ⟨_, rfl, ?_, Has.new _ _ _, ?_⟩
  · have := hf.size; simp at this; omega
  · exact (((Fr.refl _ _).alloc _).trans (hf.weaken (by simp))).alloc _

set_option maxHeartbeats 400000 in
theorem toll_New_no (r : RatesS) (w : World) (hr : ¬ r.ok) :
    Calls Try.prog 25 #[r.v] w fun e w' => e = .returned (.tuple #[.pointer none, .int .i64 1]) ∧ Fr [] w w' := by
  refine calls_cps fun R hR => ?_
  obtain ⟨f, ft, b, bt⟩ := r
  have c1 := toll_Right ⟨f, ft, b, bt⟩
  simp only [RatesS.v, RatesS.cs] at c1 ⊢
  go_enter Try.func25, Try.ntmps25
  go_wp2_with (first
    | (go_at_call 36; refine (c1 _).mono ?_; rintro e w1 ⟨v, rfl, hv, hf⟩; obtain rfl : v = false := (by cases v; rfl; exact absurd (hv.1 rfl) hr); clear hv hr))
  exact hR.out _ _ ⟨rfl, ((Fr.refl _ _).alloc _).trans hf⟩

end Go.Proofs.Ytemhcflaldeakaa
/- What the rows ask of the program. -/
namespace Go.Proofs.Ytemhcflaldeakaa
theorem Try.own : ownKnob Try.prog.godebug = none := by kernel_rfl
theorem Try.laidOut : laidOutB Try.prog = true := by kernel_rfl
theorem wf_u64 {n : Int} (h : (Lit.int .u64 n).wf = true) : 0 ≤ n ∧ n < 18446744073709551616 := by simp [Lit.wf, IntKind.bits, IntKind.signed, IntKind.min, IntKind.max] at h; omega
theorem wf_i64 {n : Int} (h : (Lit.int .i64 n).wf = true) : -9223372036854775808 ≤ n ∧ n < 9223372036854775808 := by simp [Lit.wf, IntKind.bits, IntKind.signed, IntKind.min, IntKind.max] at h; omega
theorem wf_u32 {n : Int} (h : (Lit.int .u32 n).wf = true) : 0 ≤ n ∧ n < 4294967296 := by simp [Lit.wf, IntKind.bits, IntKind.signed, IntKind.min, IntKind.max] at h; omega
theorem wf_u16 {n : Int} (h : (Lit.int .u16 n).wf = true) : 0 ≤ n ∧ n < 65536 := by simp [Lit.wf, IntKind.bits, IntKind.signed, IntKind.min, IntKind.max] at h; omega
theorem wf_u8 {n : Int} (h : (Lit.int .u8 n).wf = true) : 0 ≤ n ∧ n < 256 := by simp [Lit.wf, IntKind.bits, IntKind.signed, IntKind.min, IntKind.max] at h; omega
end Go.Proofs.Ytemhcflaldeakaa
/- WHAT CAME IN, OPENED: rows of slices, bytes, short sums. -/
namespace Go.Fp
open Go Go.RowKit Go.ChangeShapes
section
variable {H : Type} {enc : TypeId × Value → H} {P : Program} {w : World} {m : Nat}
theorem All2.split : ∀ {ks ks' : List Ck} {vs : List Value}, All2 enc P w m (ks ++ ks') vs → ∃ a b, vs = a ++ b ∧ All2 enc P w m ks a ∧ All2 enc P w m ks' b
  | [], _, vs, h => ⟨[], vs, rfl, trivial, h⟩
  | k :: ks, ks', vs, h => by
    obtain ⟨v, vs', rfl, h1, h2⟩ := All2.cons h
    obtain ⟨a, b, rfl, h3, h4⟩ := All2.split h2
    exact ⟨v :: a, b, rfl, ⟨h1, h3⟩, h4⟩
theorem CellIs.u8 {v : Value} (h : CellIs enc P w m (.int .u8) v) : ∃ b : UInt8, v = Fp.u8 b := by
  obtain ⟨n, rfl, hw⟩ := h
  have : 0 ≤ n ∧ n < 256 := by simp [Lit.wf, IntKind.bits, IntKind.signed, IntKind.min, IntKind.max] at hw; omega
  exact ⟨UInt8.ofNat n.toNat, by unfold Fp.u8; congr 1; simp; omega⟩
theorem All2.bytes : ∀ {n : Nat} {vs : List Value}, All2 enc P w m (List.replicate n (.int .u8)) vs → ∃ l : List UInt8, l.length = n ∧ vs = u8s l
  | 0, vs, h => ⟨[], rfl, All2.nil h⟩
  | n + 1, vs, h => by
    rw [List.replicate_succ] at h
    obtain ⟨v, vs', rfl, h1, h2⟩ := All2.cons h
    obtain ⟨b, rfl⟩ := h1.u8
    obtain ⟨l, hl, rfl⟩ := All2.bytes h2
    exact ⟨b :: l, by simp [hl], rfl⟩
theorem collect {α : Type} {n : Nat} {R : Nat → α → Prop} (h : ∀ i, i < n → ∃ x, R i x) : ∃ l : List α, l.length = n ∧ ∀ i (hi : i < l.length), R i l[i] := by
  induction n with
  | zero => exact ⟨[], rfl, fun i hi => by simp at hi⟩
  | succ n ih =>
    obtain ⟨l, hl, hR⟩ := ih (fun i hi => h i (by omega))
    obtain ⟨x, hx⟩ := h n (by omega)
    refine ⟨l ++ [x], by simp [hl], fun i hi => ?_⟩
    rw [List.getElem_append]
    split
    · exact hR i _
    · rename_i h1
      have : i = n := by simp at hi; omega
      subst this
      simpa using hx
/-- A slice of rows that came in. -/
theorem rows_open {α : Type} {e : TypeId} {ks : List Ck} {v : Value} (n : Nat) (f : α → List Value) (Q : α → Prop) (hk : Ck.of P n e = some ks) (hsz : P.cellsOf e = ks.length) (hpos : 0 < ks.length)
    (hq : ∀ cs, All2 enc P w m ks cs → ∃ a, cs = f a ∧ Q a) (h : CellIs enc P w m (.slc e) v) :
    ∃ (x : Option Addr) (c : Nat) (ys : List α), v = .slice x ys.length c ∧ ys.length ≤ c ∧ c ≤ maxLen ∧ c ≤ m ∧ (x = none → ys.length = 0 ∧ c = 0) ∧ Rdz w x ys.length ks.length (ys.map f).flatten ∧ ∀ a, a ∈ ys → Q a := by
  obtain ⟨x, len, cap, B, off, rfl, h1, h2, h3, h4, h5, h6⟩ := slice_open n hk hsz hpos h
  obtain ⟨ys, hl, hR⟩ := collect (R := fun i a => Q a ∧ (f a).length = ks.length ∧ ∀ j, j < ks.length → w.cell? ⟨B, off + i * ks.length + j, none⟩ = (f a)[j]?) (fun i hi => by
    obtain ⟨cs, g1, g2⟩ := h6 i hi
    obtain ⟨a, rfl, g3⟩ := hq cs g1
    exact ⟨a, g3, All2.length g1, g2⟩)
  subst hl
  have hls : ∀ l, l ∈ ys.map f → l.length = ks.length := fun l hl => by
    obtain ⟨a, ha, rfl⟩ := List.mem_map.1 hl
    obtain ⟨i, hi, rfl⟩ := List.mem_iff_getElem.1 ha
    exact (hR i hi).2.1
  have hflat : ∀ (ls : List (List Value)), (∀ l, l ∈ ls → l.length = ks.length) → ls.flatten.length = ls.length * ks.length := by
    intro ls
    induction ls with
    | nil => simp
    | cons l ls ih => intro h; rw [List.flatten_cons, List.length_append, ih (fun x hx => h x (List.mem_cons_of_mem _ hx)), h l (by simp), List.length_cons, Nat.add_mul]; omega
  have hget : ∀ (ls : List (List Value)), (∀ l, l ∈ ls → l.length = ks.length) → ∀ j u, ls.flatten[j]? = some u → ∃ i r l, j = i * ks.length + r ∧ r < ks.length ∧ ls[i]? = some l ∧ l[r]? = some u := by
    intro ls
    induction ls with
    | nil => intro _ j u h; simp at h
    | cons l ls ih =>
      intro h j u hj
      have hl := h l (by simp)
      rw [List.flatten_cons] at hj
      by_cases hj1 : j < l.length
      · rw [List.getElem?_append_left hj1] at hj
        exact ⟨0, j, l, by omega, by omega, rfl, hj⟩
      · rw [List.getElem?_append_right (by omega)] at hj
        obtain ⟨i, r, l', e1, e2, e3, e4⟩ := ih (fun x hx => h x (List.mem_cons_of_mem _ hx)) _ _ hj
        exact ⟨i + 1, r, l', by rw [Nat.add_mul]; omega, e2, by simpa using e3, e4⟩
  refine ⟨x, cap, ys, rfl, h1, h2, h3, h5, ⟨by rw [hflat _ hls, List.length_map], fun hp => ?_⟩, fun a ha => ?_⟩
  · obtain ⟨g1, g2⟩ := h4 hp
    refine ⟨B, off, g1, g2, fun j u hj => ?_⟩
    obtain ⟨i, r, l, rfl, e2, e3, e4⟩ := hget _ hls j u hj
    rw [List.getElem?_map] at e3
    cases hi : ys[i]? with
    | none => rw [hi] at e3; cases e3
    | some a =>
      rw [hi] at e3
      simp only [Option.map_some, Option.some.injEq] at e3
      subst e3
      obtain ⟨hil, rfl⟩ := List.getElem?_eq_some_iff.1 hi
      rw [← Nat.add_assoc, (hR i hil).2.2 r e2, e4]
  · obtain ⟨i, hi, rfl⟩ := List.mem_iff_getElem.1 ha
    exact (hR i hi).1
theorem flat_u8 (l : List UInt8) : (l.map fun b => [u8 b]).flatten = u8s l := by
  induction l with
  | nil => rfl
  | cons b l ih => rw [List.map_cons, List.flatten_cons, ih]; rfl
theorem flat_sums (ls : List (List UInt8)) : (ls.map u8s).flatten = u8s ls.flatten := by simp [u8s, List.map_flatten]; rfl
theorem bytes_open {e : TypeId} {v : Value} (hk : Ck.of P 1 e = some [.int .u8]) (hsz : P.cellsOf e = 1) (h : CellIs enc P w m (.slc e) v) :
    ∃ (x : Option Addr) (c : Nat) (bs : List UInt8), v = .slice x bs.length c ∧ bs.length ≤ c ∧ c ≤ maxLen ∧ c ≤ m ∧ (x = none → bs.length = 0 ∧ c = 0) ∧ Rdz w x bs.length 1 (u8s bs) := by
  obtain ⟨x, c, bs, h1, h2, h3, h4, h5, h6, _⟩ := rows_open 1 (fun b => [u8 b]) (fun _ => True) hk hsz (by decide) (fun cs h => by
    obtain ⟨v, vs', rfl, h1, h2⟩ := All2.cons h
    obtain ⟨b, rfl⟩ := h1.u8
    obtain rfl := All2.nil h2
    exact ⟨b, rfl, trivial⟩) h
  rw [flat_u8] at h6
  exact ⟨x, c, bs, h1, h2, h3, h4, h5, h6⟩
theorem sums_open {e k : Nat} {v : Value} (n : Nat) (hk : Ck.of P n e = some (List.replicate k (.int .u8))) (hsz : P.cellsOf e = k) (hpos : 0 < k) (h : CellIs enc P w m (.slc e) v) :
    ∃ (x : Option Addr) (c : Nat) (ls : List (List UInt8)), v = .slice x ls.length c ∧ ls.length ≤ c ∧ c ≤ maxLen ∧ c ≤ m ∧ (x = none → ls.length = 0 ∧ c = 0) ∧ Rdz w x ls.length k (u8s ls.flatten) ∧ ∀ l, l ∈ ls → l.length = k := by
  obtain ⟨x, c, ls, h1, h2, h3, h4, h5, h6, h7⟩ := rows_open n u8s (fun l => l.length = k) hk (by rw [hsz, List.length_replicate]) (by rw [List.length_replicate]; exact hpos) (fun cs h => by
    obtain ⟨l, hl, rfl⟩ := All2.bytes h
    exact ⟨l, rfl, hl⟩) h
  rw [flat_sums, List.length_replicate] at h6
  exact ⟨x, c, ls, h1, h2, h3, h4, h5, h6, h7⟩
end
end Go.Fp

/- THE WALKS of package toll. -/
import Derived.Test.YtemhcflaldeakaaBase
namespace Go.Proofs.Ytemhcflaldeakaa
open Go.RowKit Go.Fp

structure RatesS where
  (f ft b bt : Int)
def RatesS.cs (r : RatesS) : Array Value := #[.int .i64 r.f, .int .i64 r.ft, .int .i64 r.b, .int .i64 r.bt]
def RatesS.v (r : RatesS) : Value := .agg r.cs
def RatesS.ok (r : RatesS) : Prop := 1 ≤ r.f ∧ r.f ≤ 1073741824 ∧ 0 ≤ r.ft ∧ r.ft ≤ 1073741824 ∧ 1 ≤ r.b ∧ r.b ≤ 1073741824 ∧ 0 ≤ r.bt ∧ r.bt ≤ 1073741824
structure TollS where
  r : RatesS
  (fr bl ow : Int)
def TollS.cs (s : TollS) : Array Value := #[.int .i64 s.r.f, .int .i64 s.r.ft, .int .i64 s.r.b, .int .i64 s.r.bt, .int .i64 s.fr, .int .i64 s.bl, .int .i64 s.ow]
def TollS.ok (s : TollS) : Prop := s.r.ok ∧ 0 ≤ s.fr ∧ s.fr ≤ s.r.f ∧ 0 ≤ s.bl ∧ 0 ≤ s.ow ∧ s.bl ≤ s.r.b ∧ s.ow ≤ 1152921504606846976

def fillF (left each most ticks : Int) : Int :=
  if 0 < each then (if (most - left + each - 1) / each ≤ ticks then most else left + each * ticks) else left

theorem fill_mul {a b c d : Int} (hb : 0 < b) (h : d < (c - a + b - 1) / b) : b * d ≤ c - a - 1 := by
  have h1 : (d + 1) * b ≤ c - a + b - 1 := (Int.le_ediv_iff_mul_le hb).1 (by omega)
  have h2 : (d + 1) * b = b * d + b := by rw [Int.add_mul, Int.mul_comm d b]; omega
  omega

theorem fill_in {a b c d : Int} (h1 : 0 ≤ a) (h2 : a ≤ c) (h6 : 0 ≤ d) : 0 ≤ fillF a b c d ∧ fillF a b c d ≤ c ∧ a ≤ fillF a b c d := by
  unfold fillF
  split
  · rename_i hb
    split
    · omega
    · rename_i h
      have := fill_mul hb (Int.not_le.1 h)
      have := Int.mul_nonneg (Int.le_of_lt hb) h6
      omega
  · omega

set_option maxHeartbeats 400000 in
theorem toll_fill (a b c d : Int) (w : World) (h1 : 0 ≤ a) (h2 : a ≤ c) (h3 : c ≤ 1073741824) (h4 : 0 ≤ b) (h5 : b ≤ 1073741824) (h6 : 0 ≤ d) :
    Calls Try.prog 39 #[.int .i64 a, .int .i64 b, .int .i64 c, .int .i64 d] w fun e w' => e = .returned (.int .i64 (fillF a b c d)) ∧ w' = w := by
  go_enter Try.func39, Try.ntmps39
  go_wp2
  · go_ret
    refine ⟨ret_int ?_, rfl⟩
    unfold fillF
    rw [if_pos ‹_›, if_pos ‹_›]
  · have hb : 0 < b := ‹_›
    have h : d < (c - a + b - 1) / b := ‹_›
    have h7 := fill_mul hb h
    have h8 : 0 ≤ b * d := Int.mul_nonneg (by omega) h6
    go_ret
    refine ⟨ret_int ?_, rfl⟩
    unfold fillF
    rw [if_pos hb, if_neg (by omega)]
    unfold wrap64
    omega
  · have hb : b = 0 := by have : b ≤ 0 := ‹_›; omega
    subst hb
    go_ret
    refine ⟨ret_int ?_, rfl⟩
    unfold fillF
    rw [if_neg (by omega)]
    simp only [Int.zero_mul, wrap64]
    omega

set_option maxHeartbeats 400000 in
theorem toll_Right (r : RatesS) (w : World) :
    Calls Try.prog 36 #[r.v] w fun e w' => ∃ b, e = .returned (.bool b) ∧ (b = true ↔ r.ok) ∧ Fr [] w w' := by
  refine calls_cps fun R hR => ?_
  obtain ⟨f, ft, b, bt⟩ := r
  simp only [RatesS.v, RatesS.cs, RatesS.ok] at hR ⊢
  have i0 : ∀ w, (Instr.index 113 (.agg #[.int .i64 f, .int .i64 ft, .int .i64 b, .int .i64 bt]) (.int .i64 0)).run Try.prog w = .ok (.int .i64 f) w := fun _ => by kernel_rfl
  have i1 : ∀ w, (Instr.index 113 (.agg #[.int .i64 f, .int .i64 ft, .int .i64 b, .int .i64 bt]) (.int .i64 1)).run Try.prog w = .ok (.int .i64 ft) w := fun _ => by kernel_rfl
  have i2 : ∀ w, (Instr.index 113 (.agg #[.int .i64 f, .int .i64 ft, .int .i64 b, .int .i64 bt]) (.int .i64 2)).run Try.prog w = .ok (.int .i64 b) w := fun _ => by kernel_rfl
  have i3 : ∀ w, (Instr.index 113 (.agg #[.int .i64 f, .int .i64 ft, .int .i64 b, .int .i64 bt]) (.int .i64 3)).run Try.prog w = .ok (.int .i64 bt) w := fun _ => by kernel_rfl
  go_enter Try.func36, Try.ntmps36
  go_wp2
  refine wp_loop_rounds 5 ?_
  repeat any_goals (rw [rounds_succ]; go_wp2)
  all_goals
    refine hR.out _ _ ⟨_, rfl, ?_, by repeat (first | exact Fr.refl _ _ | apply Fr.drew | apply Fr.alloc)⟩
    simp only [Bool.false_eq_true, false_iff, decide_eq_true_eq]
    omega

/-- What is left behind so many ticks. -/
def tickF (s : TollS) (n : Int) : Int × TollS := if n < 0 then (1, s) else (0, { s with fr := fillF s.fr s.r.ft s.r.f n, bl := fillF s.bl s.r.bt s.r.b n })
def frameF (s : TollS) (n : Int) : Int × TollS := if n < 0 then (1, s) else if s.fr < 1 then (26, s) else if s.bl < n then (26, s) else (0, { s with fr := s.fr - 1, bl := s.bl - n })
def holdF (s : TollS) (n : Int) : Int × TollS := if n < 0 then (1, s) else if s.bl < n then (26, s) else (0, { s with bl := s.bl - n, ow := s.ow + n })
def settleF (s : TollS) (n : Int) : Int × TollS := if n < 0 then (1, s) else if s.ow < n then (1, s) else (0, { s with bl := min s.r.b (s.bl + s.ow - n), ow := 0 })

theorem TollS.ok.fr1 {s : TollS} (h : s.ok) : s.fr ≤ 1073741824 := by unfold TollS.ok RatesS.ok at h; omega

set_option maxHeartbeats 400000 in
theorem toll_Tick (g : Nat) (s : TollS) (n : Int) (w : World) (hs : s.ok) (h : Has w g 99 s.cs) :
    Calls Try.prog 26 #[.pointer (some ⟨g, 0, none⟩), .int .i64 n] w fun e w' => e = .returned (.int .i64 (tickF s n).1) ∧
      Has w' g 99 (tickF s n).2.cs ∧ Fr [g] w w' := by
  refine calls_cps fun R hR => ?_
  obtain ⟨⟨f, ft, b, bt⟩, fr, bl, ow⟩ := s
  simp only [TollS.ok, RatesS.ok, TollS.cs] at hs h
  obtain ⟨⟨h1, h2, h3, h4, h5, h6, h7, h8⟩, h9, h10, h11, h12, h13, h14⟩ := hs
  have hc := h.cell
  have hz := h.froz
  by_cases hn : n < 0
  · rw [tickF, if_pos hn] at hR
    go_enter Try.func26, Try.ntmps26
    go_wp2
    exact hR.out _ _ ⟨rfl, h, Fr.refl _ _⟩
  · rw [tickF, if_neg hn] at hR
    go_enter Try.func26, Try.ntmps26
    go_wp2_with (first
    | (refine wp_region_text (id := 5) [0, 0, 0, 0, 1, 0, 0, 0, 0, 1, 0, 0, 0, 0, 1, 0] Any Try.mixed (by kernel_rfl) trivial ?_)
    | (refine wp_region_text (id := 6) [0, 0, 0, 0, 1, 0, 0, 0, 0, 1, 0, 0, 0, 0, 1, 0] Any Try.mixed (by kernel_rfl) trivial ?_)
    | (refine wpT_0 (fun K hK => ?_); go_simp; refine hK _ ?_; clear hK K)
    | (refine wpT_1 (fun K hK => ?_); go_simp; refine hK _ ?_; clear hK K)
    | (refine wpT_tail (by rfl) ?_)
    | (refine wpT_2A (fun _ _ => ?_); rw [if_pos (by rfl)])
    | (refine wpT_nil ?_)
    | (go_at_call 39; refine (toll_fill _ _ _ _ _ (by omega) (by omega) (by omega) (by omega) (by omega) (by omega)).mono ?_; rintro e w' ⟨rfl, rfl⟩))
    exact hR.out _ _ ⟨rfl, ((h.set 4 _).set 5 _).drew.drew, by repeat (first | exact Fr.refl _ _ | apply Fr.drew | apply Fr.set _ (Or.inl (by simp)))⟩

set_option maxHeartbeats 400000 in
theorem toll_Frame (g : Nat) (s : TollS) (n : Int) (w : World) (hs : s.ok) (h : Has w g 99 s.cs) :
    Calls Try.prog 32 #[.pointer (some ⟨g, 0, none⟩), .int .i64 n] w fun e w' => e = .returned (.int .i64 (frameF s n).1) ∧
      Has w' g 99 (frameF s n).2.cs ∧ Fr [g] w w' := by
  refine calls_cps fun R hR => ?_
  obtain ⟨⟨f, ft, b, bt⟩, fr, bl, ow⟩ := s
  simp only [TollS.ok, RatesS.ok, TollS.cs] at hs h
  obtain ⟨⟨h1, h2, h3, h4, h5, h6, h7, h8⟩, h9, h10, h11, h12, h13, h14⟩ := hs
  have hc := h.cell
  have hz := h.froz
  go_enter Try.func32, Try.ntmps32
  go_wp2_with fail
  all_goals
    refine hR.out _ _ ?_
    simp only [frameF]
    (repeat' split) <;> first
      | (exfalso; omega)
      | exact ⟨rfl, h, Fr.refl _ _⟩
      | exact ⟨rfl, ((h.set 4 _).set 5 _), by repeat (first | exact Fr.refl _ _ | apply Fr.drew | apply Fr.set _ (Or.inl (by simp)))⟩

set_option maxHeartbeats 400000 in
theorem toll_New_ok (r : RatesS) (w : World) (hr : r.ok) :
    Calls Try.prog 25 #[r.v] w fun e w' => ∃ g, e = .returned (.tuple #[.pointer (some ⟨g, 0, none⟩), .int .i64 0]) ∧ w.heap.size ≤ g ∧
      Has w' g 99 (⟨r, r.f, r.b, 0⟩ : TollS).cs ∧ Fr [] w w' := by
  refine calls_cps fun R hR => ?_
  obtain ⟨f, ft, b, bt⟩ := r
  have c1 := toll_Right ⟨f, ft, b, bt⟩
  simp only [RatesS.v, RatesS.cs] at c1 ⊢
  go_enter Try.func25, Try.ntmps25
  go_wp2_with (first
    | (go_at_call 36; refine (c1 _).mono ?_; rintro e w1 ⟨v, rfl, hv, hf⟩; obtain rfl : v = true := hv.2 hr; clear hv hr
       have hb := hf.has0 (Has.new w _ _); have hc := hb.cell))
  refine hR.out _ _ ⟨_, rfl, ?_, Has.new _ _ _, ?_⟩
  · have := hf.size; simp at this; omega
  · exact (((Fr.refl _ _).alloc _).trans (hf.weaken (by simp))).alloc _

set_option maxHeartbeats 400000 in
theorem toll_New_no (r : RatesS) (w : World) (hr : ¬ r.ok) :
    Calls Try.prog 25 #[r.v] w fun e w' => e = .returned (.tuple #[.pointer none, .int .i64 1]) ∧ Fr [] w w' := by
  refine calls_cps fun R hR => ?_
  obtain ⟨f, ft, b, bt⟩ := r
  have c1 := toll_Right ⟨f, ft, b, bt⟩
  simp only [RatesS.v, RatesS.cs] at c1 ⊢
  go_enter Try.func25, Try.ntmps25
  go_wp2_with (first
    | (go_at_call 36; refine (c1 _).mono ?_; rintro e w1 ⟨v, rfl, hv, hf⟩; obtain rfl : v = false := (by cases v; rfl; exact absurd (hv.1 rfl) hr); clear hv hr))
  exact hR.out _ _ ⟨rfl, ((Fr.refl _ _).alloc _).trans hf⟩

end Go.Proofs.Ytemhcflaldeakaa
